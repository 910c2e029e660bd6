/- PROVED: Unhex of the program. No condition beyond what each line says. -/
import Derived.Test.YtdmofimhengcoaaHexU
import Derived.Test.YtdmofimhengcoaaShelf
import Derived.Test.YtdmofimhengcoaaLRead
import Derived.Test.YtdmofimhengcoaaWApart
import Derived.Test.YtdmofimhengcoaaWKept
import Derived.Lib.Builder
import Derived.Shelf.Strings.Builder1
import Derived.WalkKit
import Derived.WalkSpells
import Derived.WalkLawsBesides
import Derived.WalkMore
import Derived.Outline
import Derived.Lib.Hide
import Derived.BigQuiet
import Derived.Deep.QuietTactic
import Derived.Deep.RegionHeld3
import Derived.Deep.RegionLaw
import Derived.Deep.LoopGhost
import Derived.Deep.DeepCutAuto
namespace Go.Proofs.Ytdmofimhengcoaa.HexV
open Go.RowKit Go.Proofs.Ytdmofimhengcoaa.PBitsHex Go.Proofs.YtdmofimhengcoaaW.PrintWords Go.Proofs.YtdmofimhengcoaaW.PrintLast Go.Proofs.YtdmofimhengcoaaW.PrintMore
open Go.Proofs.Ytdmofimhengcoaa.HexB Go.Proofs.Ytdmofimhengcoaa.HexQ Go.Proofs.Ytdmofimhengcoaa.HexW
open Go.Proofs.Ytdmofimhengcoaa.HexU
set_option linter.unusedSimpArgs false
set_option linter.unusedVariables false
theorem and1 (k : Int) : Go.bits .and .i64 k 1 = k % 2 := by
  have h127 : (BitVec.ofInt 64 1).toNat = 2 ^ 1 - 1 := by decide
  have key : (BitVec.ofInt 64 k &&& BitVec.ofInt 64 1).toNat = (k % ((2 ^ 64 : Nat) : Int)).toNat % 2 ^ 1 := by
    rw [BitVec.toNat_and, BitVec.toNat_ofInt, h127, Nat.and_two_pow_sub_one_eq_mod]
  show IntKind.i64.wrap ((BitVec.ofInt 64 k &&& BitVec.ofInt 64 1).toNat : Nat) = k % 2
  rw [key, IntKind.wrap_i64]
  omega
theorem or_hl : ∀ a b : Fin 16, Go.bits .or .i64 (16 * (a.val : Int)) (b.val : Int) = 16 * (a.val : Int) + b.val := by decide +kernel
theorem ib_ok (c : Int) (w : World) : Calls Try.prog 26 #[.string (⟨#[48, 49, 50, 51, 52, 53, 54, 55, 56, 57, 97, 98, 99, 100, 101, 102]⟩ : ByteArray), .int .u8 c] w fun e w' => e = .returned (.int .i64 (VI c)) ∧ w' = w := Try.strings_IndexByte (⟨#[48, 49, 50, 51, 52, 53, 54, 55, 56, 57, 97, 98, 99, 100, 101, 102]⟩ : ByteArray) c w
set_option maxHeartbeats 4000000 in
set_option maxRecDepth 100000 in
theorem unhex_ok (s : ByteArray) (hm : s.size ≤ 4000000) (w : World) : Calls Try.prog 21 #[.string s] w fun e w' => ∃ A c, e = .returned (.tuple #[.slice A (unhS s).1.length c, .int .i64 (unhS s).2]) ∧ Kd.R (Kd.int .u8) 5 w' w.heap.size (fun _ => True) (.slice A (unhS s).1.length c) (unhS s).1 ∧ Below w.heap.size w w' := by
  have hsI : (s.size : Int) ≤ 4000000 := by omega
  by_cases q : s.size % 2 = 1
  · rw [unhS_odd q]
    have hq : (Go.bits .and .i64 (s.size : Int) 1 == 1) = true := by rw [and1, beq_iff_eq]; omega
    clear q
    go_enter Try.func21, Try.ntmps21
    go_wp2
    go_ret2
    exact ⟨_, _, rfl, Kd.R_nil _ _ _ _ _, Below.refl _ _⟩
  · have hq : (Go.bits .and .i64 (s.size : Int) 1 == 1) = false := by rw [and1, beq_eq_false_iff_ne]; omega
    obtain ⟨zs, Hzs, hzl⟩ : ∃ zs : List Int, Hid (zs = List.replicate ((s.size : Int) / 2).toNat 0) ∧ Hid (2 * zs.length = s.size) := ⟨_, Lib.hid rfl, Lib.hid (by rw [List.length_replicate]; omega)⟩
    have HS : Hid (s.size = 2 * zs.length) := Lib.hid hzl.out.symm
    have hz4 : zs.length ≤ 2000000 := by have := hzl.out; omega
    have HB := Lib.hid (Below.refl w.heap.size w)
    clear q
    go_enter Try.func21, Try.ntmps21
    go_upto_region 5 with (first | ((with_reducible refine gate_dst (N := 15) rfl ?_); refine Kd.R_make (Kd.int .u8) _ 5 rfl (N := 15) rfl 26 _ _ rfl ((s.size : Int) / 2) rfl rfl Try.underlying26 (.int .u8 0) 1 info5 rfl (by decide) (by omega) 0 (ok := fun _ => True) (okp := fun _ => True) rfl (fun _ hk => hk) trivial (by omega) (by omega) (Below.refl _ _) (Nat.le_refl _) ?_; intro vL wL hl hb hg_ hn_; rw [← Hzs.out] at hl; clear hg_ hn_; obtain ⟨A4, c4, rfl⟩ := Kd.R_slice hl; have HL : Hid (Kd.R (Kd.int .u8) 5 wL w.heap.size (fun _ => True) (.slice A4 zs.length c4) (decS s 0 ++ zs.drop 0)) := Lib.hid hl; have hb_ := below_step HB.out hb; clear HB hl; have HB := Lib.hid hb_; clear hb_ hb))
    go_loopw [5, 6, 7, 18] (fun u5 u6 u7 u18 wr => ∃ (k : Nat) (t5 t6 t7 : Value), u18 = .int .i64 k ∧ k ≤ zs.length ∧ u5 = t5 ∧ u6 = t6 ∧ u7 = t7 ∧ Hid (okB s k) ∧ Hid (Kd.R (Kd.int .u8) 5 wr w.heap.size (fun _ => True) (.slice A4 zs.length c4) (decS s k ++ zs.drop k)) ∧ Hid (Below w.heap.size w wr)) (fun _ _ _ u18 _ => zs.length - (intOf u18).toNat)
    case atStart => exact ⟨0, _, _, _, rfl, Nat.zero_le _, rfl, rfl, rfl, Lib.hid (fun j hj => by omega), HL, HB⟩
    clear HL HB
    obtain ⟨k, t5, t6, t7, rfl, hk, rfl, rfl, rfl, HOK, HL, HB⟩ := hrel
    by_cases hlt : k < zs.length
    · have hlt' : (k : Int) < zs.length := by omega
      have hs1 : 2 * k + 1 < s.size := by have := hzl.out; omega
      have hs2 : (2 : Int) * k + 1 < s.size := by omega
      have hs3 : (2 : Int) * k < s.size := by omega
      have hk2 : (k : Int) ≤ 2000000 := by omega
      have hrl : (decS s k ++ zs.drop k).length = zs.length := by rw [List.length_append, decS_len, List.length_drop]; omega
      obtain ⟨g, cg, he, hbg, hgl, cells, hX⟩ := Kd.R_form HL.out (by rw [hrl]; omega)
      simp only [Value.slice.injEq] at he
      obtain ⟨rfl, he2, rfl⟩ := he
      clear he2
      have y0 : wr.frozen? ⟨g, k, none⟩ = false := blk_frozen hX k
      obtain ⟨y1, hy1⟩ : ∃ u, wr.cell? ⟨g, k, none⟩ = some u := by
        obtain ⟨bb, off, e, x0⟩ := byte_in (Kd.R_reads' HL.out).2.2 (k := k) (List.getElem?_eq_getElem (by omega))
        simp only [Option.some.injEq, Addr.mk.injEq] at e
        obtain ⟨rfl, rfl, _⟩ := e
        exact ⟨_, by rw [Nat.zero_add] at x0; exact x0⟩
      have HRL := Lib.hid hrl
      have HGB := Lib.hid hbg
      clear hrl hX hbg
      go_upto_region 7 with (fail)
      obtain ⟨b0, hb0⟩ : ∃ b, bt s ((2 * k : Nat) : Int) = b := ⟨_, rfl⟩
      obtain ⟨b1, hb1⟩ : ∃ b, bt s ((2 * k + 1 : Nat) : Int) = b := ⟨_, rfl⟩
      have hg0 : ∀ h, ((s[2 * k]'h).toNat : Int) = b0 := fun h => by rw [← hb0]; exact bt_at s ((2 * k : Nat) : Int) h
      have hg1 : ∀ h, ((s[2 * k + 1]'h).toNat : Int) = b1 := fun h => by rw [← hb1]; exact bt_at s ((2 * k + 1 : Nat) : Int) h
      obtain ⟨v0, hv0⟩ : ∃ v, VI b0 = v := ⟨_, rfl⟩
      obtain ⟨v1, hv1⟩ : ∃ v, VI b1 = v := ⟨_, rfl⟩
      have e0 : VS s (2 * k) = v0 := by rw [← hv0, ← hb0]; rfl
      have e1 : VS s (2 * k + 1) = v1 := by rw [← hv1, ← hb1]; rfl
      have r0 := vs_at s (2 * k)
      have r1 := vs_at s (2 * k + 1)
      rw [e0] at r0
      rw [e1] at r1
      have E0 := Lib.hid e0
      have E1 := Lib.hid e1
      have R0 := Lib.hid r0
      have R1 := Lib.hid r1
      clear e0 e1 hb0 hb1 r0 r1
      have p0 : 0 ≤ 2 * (k : Int) := by omega
      have p1 : 0 ≤ 2 * (k : Int) + 1 := by omega
      have t0 : (2 * (k : Int)).toNat = 2 * k := by omega
      have t1 : (2 * (k : Int) + 1).toNat = 2 * k + 1 := by omega
      have hs0 : 2 * k < s.size := by omega
      have W0 : IntKind.i64.wrap (2 * (k : Int)) = 2 * (k : Int) := by rw [IntKind.wrap_i64]; omega
      have W1 : IntKind.i64.wrap (2 * (k : Int) + 1) = 2 * (k : Int) + 1 := by rw [IntKind.wrap_i64]; omega
      go_quiet (((with_reducible go_at_call 26); exact Calls.quiet_of_same (ib_ok _ _)))
      rw [hv0, hv1]
      refine world_gen (P := fun w5 => Kd.R (Kd.int .u8) 5 w5 w.heap.size (fun _ => True) (.slice (some ⟨g, 0, none⟩) zs.length c4) (decS s k ++ zs.drop k) ∧ Below w.heap.size w w5 ∧ w5.frozen? ⟨g, k, none⟩ = false ∧ w5.cell? ⟨g, k, none⟩ = some y1) ⟨Kd.R_drewN HL.out nq, pw_below_drewN HB.out nq, y0, hy1⟩ (fun w5 h5 => ?_)
      obtain ⟨h5a, h5b, y0, hy1⟩ := h5
      clear HL HB W0 W1 t0 t1 hg0 hg1 hv0 hv1 p0 p1 hs0 hs1 hs2 hs3
      have HL := Lib.hid h5a
      have HB := Lib.hid h5b
      clear h5a h5b
      have r0 := R0.out
      have r1 := R1.out
      by_cases q0 : v0 < 0
      · have hres := unhS_bad HS.out (fun h => by have := h (2 * k) (by omega); rw [E0.out] at this; omega)
        have HRES := Lib.hid hres
        clear hres r0 r1
        go_wp2
        go_ret2
        rw [HRES.out]
        exact ⟨_, _, rfl, Kd.R_nil _ _ _ _ _, HB.out⟩
      by_cases q1 : v1 < 0
      · have hres := unhS_bad HS.out (fun h => by have := h (2 * k + 1) (by omega); rw [E1.out] at this; omega)
        have HRES := Lib.hid hres
        have q0' : 0 ≤ v0 := by omega
        clear hres r0 r1 q0
        go_wp2
        go_ret2
        rw [HRES.out]
        exact ⟨_, _, rfl, Kd.R_nil _ _ _ _ _, HB.out⟩
      have hn0 : v0 < 16 := by omega
      have hn1 : v1 < 16 := by omega
      obtain ⟨n0, rfl⟩ := Int.eq_ofNat_of_zero_le (show 0 ≤ v0 by omega)
      obtain ⟨n1, rfl⟩ := Int.eq_ofNat_of_zero_le (show 0 ≤ v1 by omega)
      have HOR : Hid (Go.bits .or .i64 ((n0 : Int) * 16) (n1 : Int) % 256 = 16 * (n0 : Int) + n1) := Lib.hid (by
        have h : Go.bits .or .i64 (16 * (n0 : Int)) (n1 : Int) = 16 * (n0 : Int) + n1 := or_hl ⟨n0, by omega⟩ ⟨n1, by omega⟩
        rw [Int.mul_comm, h]
        omega)
      have HOK2 : Hid (okB s (k + 1)) := Lib.hid (okB_succ HOK.out (by rw [E0.out]; omega) (by rw [E1.out]; omega))
      have HD : Hid (decS s (k + 1) ++ zs.drop (k + 1) = (decS s k ++ zs.drop k).set k (16 * (n0 : Int) + n1)) := Lib.hid (by
        rw [decS_succ, E0.out, E1.out, List.set_append_right _ _ (by rw [decS_len]; omega), decS_len, Nat.sub_self, List.drop_eq_getElem_cons hlt, List.set_cons_zero]
        simp)
      clear r0 r1 q0 q1 R0 R1
      go_wp2
      exact ⟨⟨k + 1, _, _, _, by go_num, by omega, rfl, rfl, rfl, HOK2, Lib.hid (by rw [HD.out, ← HOR.out]; exact Kd.R_putn HL.out (k : Int) _), Lib.hid (Below.setCell (p := ⟨g, k, none⟩) HB.out HGB.out _)⟩, by simp [intOf]; omega⟩
    · have hlt' : (zs.length : Int) ≤ k := by omega
      have hk2 : k = zs.length := by omega
      have hok : okB s zs.length := by rw [← hk2]; exact HOK.out
      have hres := unhS_ok HS.out hok
      have hL := HL.out
      rw [hk2, List.drop_of_length_le (Nat.le_refl _), List.append_nil] at hL
      have HL2 := Lib.hid hL
      have HRES := Lib.hid hres
      have hdl : (decS s zs.length).length = zs.length := decS_len _ _
      have HDL := Lib.hid hdl
      clear hL hres hok hk2 hdl HL
      go_wp2
      go_ret2
      rw [HRES.out]
      refine ⟨A4, c4, ?_, ?_, HB.out⟩
      · show _ = Ending.returned (.tuple #[.slice A4 (decS s zs.length).length c4, .int .i64 0])
        rw [HDL.out]
        rfl
      · show Kd.R _ _ _ _ _ (.slice A4 (decS s zs.length).length c4) (decS s zs.length)
        rw [HDL.out]
        exact HL2.out
end Go.Proofs.Ytdmofimhengcoaa.HexV
