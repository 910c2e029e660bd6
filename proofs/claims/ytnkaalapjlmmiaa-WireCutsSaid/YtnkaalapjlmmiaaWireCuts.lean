/- PROVED: the law WireCuts: the walk. No condition. -/
import Derived.Test.YtnkaalapjlmmiaaWireT2
import Derived.Test.YtnkaalapjlmmiaaWKept
import Derived.Test.YtnkaalapjlmmiaaWApart
import Derived.Test.YtnkaalapjlmmiaaLRead
import Derived.Test.YtnkaalapjlmmiaaWApart
import Derived.WalkKit
import Derived.WalkSpells
import Derived.WalkLawsBesides
import Derived.WalkMore
import Derived.Outline
import Derived.Lib.Hide
import Derived.BigQuiet
import Derived.Deep.QuietTactic
import Derived.Deep.RegionHeld3
import Derived.Deep.RegionLaw
import Derived.Deep.LoopGhost
import Derived.Deep.DeepCutAuto
namespace Go.Proofs.Ytnkaalapjlmmiaa.WireCuts
open Go.RowKit Go.Proofs.Ytnkaalapjlmmiaa.PWireWrites Go.Proofs.Ytnkaalapjlmmiaa.WirePure Go.Proofs.YtnkaalapjlmmiaaW.PrintWords Go.Proofs.YtnkaalapjlmmiaaW.PrintLast Go.Proofs.YtnkaalapjlmmiaaW.PrintMore
open Go.Proofs.Ytnkaalapjlmmiaa.WireW (slice_at cell_below num_ok text_ok list_ok)
open Go.Proofs.Ytnkaalapjlmmiaa.WireR Go.Proofs.Ytnkaalapjlmmiaa.WireR2 Go.Proofs.Ytnkaalapjlmmiaa.WireR3
open Go.Proofs.Ytnkaalapjlmmiaa.WireT Go.Proofs.Ytnkaalapjlmmiaa.WireD Go.Proofs.Ytnkaalapjlmmiaa.WirePure2
open Go.Proofs.Ytnkaalapjlmmiaa.WireT2
set_option linter.unusedSimpArgs false
set_option linter.unusedVariables false
/-- The bytes that are cut in round k. -/
def cutOf (n : Int) (l : List (List Int)) (k : Nat) : List Int := if k = 1 then listB l else if k = 2 ∧ 0 < l.length then textB (l.getD 0 []) else numB n
theorem endD_cut (d : List Int) : endD d 40 = 40 := by unfold endD; rw [if_neg (by simp)]
theorem idx_cut (L : Nat) (c : Int) (hL : 0 < L) (h0 : 0 ≤ c) : ∃ j : Nat, j < L ∧ c % (L : Int) = (j : Int) := by
  have h1 := Int.emod_nonneg c (show (L : Int) ≠ 0 by omega)
  have h2 := Int.emod_lt_of_pos c (show (0 : Int) < L by omega)
  exact ⟨(c % (L : Int)).toNat, by omega, by omega⟩
theorem read_cut (w0 : World) (A : Option Addr) (cap L : Nat) (b : List Int) (j : Nat) (w : World) (hB : Below w0.heap.size w0 w) (hC : Kd.C (Kd.int .u8) w A b.length b) (hj : j < b.length) (hcap : j ≤ cap) (hl : b.length ≤ 1000000) :
    Calls Try.prog 21 #[.slice A j cap] w fun e w' => ∃ r A' cap', e = .returned (.pointer (some ⟨r, 0, none⟩)) ∧ Rd w0.heap.size w' r A' cap' (b.take j) 0 0 ∧ Below w.heap.size w w' := by
  have hj2 : (b.take j).length = j := by rw [List.length_take]; omega
  have := read_b w0 A cap (b.take j) w hB (Kd.C_take hC (by omega)) (by omega) (by omega)
  rw [hj2] at this
  exact this
set_option maxHeartbeats 4000000 in
set_option maxRecDepth 100000 in
theorem cuts_walk (n : Int) (A : Option Addr) (cap : Nat) (l : List (List Int)) (cut : Int) (w : World) (n0 : 0 ≤ n) (n1 : n < 18446744073709551616) (hC : Kd.C kT w A l.length l) (hcap : l.length ≤ cap) (hby : ∀ t ∈ l, Byt t) (hcut : -9223372036854775808 ≤ cut ∧ cut ≤ 9223372036854775807) :
    Calls Try.prog 6 #[.int .u64 n, .slice A l.length cap, .int .i64 cut] w fun e w' => e = .returned (.bool true) ∧ Below w.heap.size w w' := by
  have HC := Lib.hid hC
  have HBY := Lib.hid hby
  clear hC hby
  obtain ⟨lb, hlb⟩ : ∃ b, longB l = b := ⟨_, rfl⟩
  have HLB := Lib.hid hlb
  clear hlb
  rcases lb with _ | _
  rotate_left
  · go_enter Try.func6, Try.ntmps6
    go_wp2_with (first | ((with_reducible go_at_call 10); go_must (refine (long_t _ A cap l _ HLB.out HC.out hcap).mono ?_; rintro e w' ⟨rfl, hb⟩; have HB := Lib.hid hb; clear hb)) | ((with_reducible go_at_call 11); go_must (refine (awake_ok _).mono ?_; rintro e w' ⟨rfl, hb⟩; have hb_ := below_step HB.out hb; clear HB; have HB := Lib.hid hb_; clear hb_ hb)))
    go_ret
    exact ⟨rfl, HB.out⟩
  by_cases q0 : cut < 0
  · go_enter Try.func6, Try.ntmps6
    go_wp2_with (first | ((with_reducible go_at_call 10); go_must (refine (long_t _ A cap l _ HLB.out HC.out hcap).mono ?_; rintro e w' ⟨rfl, hb⟩; have HB := Lib.hid hb; clear hb)) | ((with_reducible go_at_call 11); go_must (refine (awake_ok _).mono ?_; rintro e w' ⟨rfl, hb⟩; have hb_ := below_step HB.out hb; clear HB; have HB := Lib.hid hb_; clear hb_ hb)))
    go_ret
    exact ⟨rfl, HB.out⟩
  have q0' : 0 ≤ cut := by omega
  have hcut2 := hcut.2
  obtain ⟨h1, h2⟩ := long_no HLB.out
  have hL := listB_le l h1 h2
  have hN := numB_le n
  have hNp : 0 < (numB n).length := by rw [numB_length]; omega
  have hLp : 0 < (listB l).length := by unfold listB; rw [List.length_append, numB_length]; omega
  have H2 := Lib.hid h2
  have h1' : (l.length : Int) ≤ 100 := by omega
  have h1k : l.length ≤ 1000 := by omega
  have H2k := Lib.hid (fun t ht => Nat.le_trans (h2 t ht) (show 500 ≤ 1000 by omega))
  clear h2 q0 hcut
  go_enter Try.func6, Try.ntmps6
  go_upto_region 4 with (first | ((with_reducible go_at_call 10); go_must (refine (long_t _ A cap l _ HLB.out HC.out hcap).mono ?_; rintro e w' ⟨rfl, hb⟩; have HB := Lib.hid hb; clear hb)))
  go_loopw [7] (fun u7 wr => ∃ k : Nat, u7 = .int .i64 k ∧ k ≤ 3 ∧ Hid (Below w.heap.size w wr)) (fun u7 _ => 3 - (intOf u7).toNat)
  case atStart => exact ⟨0, rfl, by omega, HB⟩
  clear HB
  obtain ⟨k, rfl, hk, HB⟩ := hrel
  rcases k with _ | _ | _ | k
  · -- a number
    have e0 : (((0 : Nat) : Int)) = 0 := rfl
    rw [e0]
    clear e0
    obtain ⟨j, hj, hjm⟩ := idx_cut (numB n).length cut hNp q0'
    have hjl : (j : Int) < (numB n).length := by omega
    have hd : Hid (numD (((numB n).take j).drop 0) 18446744073709551615 = (0, 0, 40)) := Lib.hid (numD_cut n n0 j hj _)
    have hlen : ((numB n).length : Int) ≤ 9 := by omega
    have hlp : (0 : Int) < (numB n).length := by omega
    go_wp2_with (first | ((with_reducible go_at_call 16); go_must (refine (num_t n _ n0 n1).mono ?_; rintro e w' ⟨A3, c3, rfl, hc3, h3, hb⟩; have hb_ := below_step HB.out hb; clear HB; have HB := Lib.hid hb_; clear hb_ hb; have H3 := Lib.hid h3; clear h3)) | ((with_reducible go_at_call 21); go_must (refine (read_cut w A3 c3 0 (numB n) j _ HB.out H3.out hj (by omega) (by omega)).mono ?_; rintro e w' ⟨r, Ar, cr, rfl, hr, hb⟩; clear H3; have HR := Lib.hid hr; have hb_ := below_step HB.out hb; clear HB; have HB := Lib.hid hb_; clear hb_ hb; clear hr)) | ((with_reducible go_at_call 22); go_must (refine (num_b w.heap.size r Ar cr _ 0 _ _ _ _ _ HR.out (by rw [List.length_take]; omega) (byt_take (numB_byt n) _) (by omega) (by omega) hd.out).mono ?_; rintro y w' ⟨rfl, hr, hg⟩; have hb_ := below_g HB.out hg HB.out.size hr.2.1; clear HB HR; have HB := Lib.hid hb_; have HR := Lib.hid hr; clear hb_ hr hg)) | ((with_reducible go_at_call 26); go_must (refine (err_is r _ _ HR.out.c2).mono ?_; rintro y w' ⟨rfl, rfl⟩)) | ((with_reducible go_at_call 28); go_must (refine (end_b w.heap.size r Ar cr _ _ _ _ _ HR.out (by rw [List.length_take]; omega) (endD_cut _)).mono ?_; rintro y w' ⟨rfl, hr, hg⟩; have hb_ := below_g HB.out hg HB.out.size hr.2.1; clear HB HR; have HB := Lib.hid hb_; have HR := Lib.hid hr; clear hb_ hr hg)))
    exact ⟨⟨1, rfl, by omega, HB⟩, by simp [intOf]⟩
  · -- a list
    have e0 : (((0 + 1 : Nat) : Int)) = 1 := rfl
    rw [e0]
    clear e0
    have hlb := listB_byt l HBY.out
    obtain ⟨LB, hLB⟩ : ∃ x, listB l = x := ⟨_, rfl⟩
    have HLBe := Lib.hid hLB
    rw [hLB] at hlb hLp hL
    have HLBb := Lib.hid hlb
    obtain ⟨j, hj, hjm⟩ := idx_cut LB.length cut hLp q0'
    have hjl : (j : Int) < LB.length := by omega
    have hlp : (0 : Int) < LB.length := by omega
    have hll : (LB.length : Int) ≤ 60000 := by omega
    have hd : Hid (listD ((LB.take j).drop 0) 100 500 = ([], 0, 40)) := Lib.hid (by rw [← hLB]; exact listD_cut l (by omega) 100 500 (by omega) (fun t ht => ⟨by have := H2.out t ht; omega, by have := H2.out t ht; omega⟩) j (by rw [hLB]; exact hj))
    clear hLB hlb
    go_wp2_with (first | ((with_reducible go_at_call 16); go_must (refine (num_t n _ n0 n1).mono ?_; rintro e w' ⟨A3, c3, rfl, hc3, h3, hb⟩; have hb_ := below_step HB.out hb; clear HB; have HB := Lib.hid hb_; clear hb_ hb; have H3 := Lib.hid h3; clear h3)) | ((with_reducible go_at_call 19); go_must (refine (copies_t A cap l _ h1k H2k.out (Kd.C_below HC.out HB.out) hcap).mono ?_; rintro e w' ⟨A5, c5, rfl, hc5, h5, hb⟩; have hb_ := below_step HB.out hb; clear HB; have HB := Lib.hid hb_; clear hb_ hb; clear H3; have H5 := Lib.hid h5; clear h5)) | ((with_reducible go_at_call 18); go_must (refine (list_t A5 c5 l _ h1k H2k.out H5.out hc5).mono ?_; rw [HLBe.out]; rintro e w' ⟨A6, c6, rfl, hc6, h6, hb⟩; have hb_ := below_step HB.out hb; clear HB; have HB := Lib.hid hb_; clear hb_ hb; clear H5; have H6 := Lib.hid h6; clear h6)) | ((with_reducible go_at_call 21); go_must (refine (read_cut w A6 c6 0 LB j _ HB.out H6.out hj (by omega) (by omega)).mono ?_; rintro e w' ⟨r, Ar, cr, rfl, hr, hb⟩; clear H6; have HR := Lib.hid hr; have hb_ := below_step HB.out hb; clear HB; have HB := Lib.hid hb_; clear hb_ hb; clear hr)) | ((with_reducible go_at_call 24); go_must (refine (list_b w.heap.size r Ar cr _ 0 _ _ _ _ _ _ HR.out (by rw [List.length_take]; omega) (byt_take HLBb.out _) (by omega) (by omega) hd.out).mono ?_; rintro y w' ⟨As, cs, rfl, hs, hr, hg⟩; clear hs; have hb_ := below_g HB.out hg HB.out.size hr.2.1; clear HB HR; have HB := Lib.hid hb_; have HR := Lib.hid hr; clear hb_ hr hg)) | ((with_reducible go_at_call 26); go_must (refine (err_is r _ _ HR.out.c2).mono ?_; rintro y w' ⟨rfl, rfl⟩)) | ((with_reducible go_at_call 28); go_must (refine (end_b w.heap.size r Ar cr _ _ _ _ _ HR.out (by rw [List.length_take]; omega) (endD_cut _)).mono ?_; rintro y w' ⟨rfl, hr, hg⟩; have hb_ := below_g HB.out hg HB.out.size hr.2.1; clear HB HR; have HB := Lib.hid hb_; have HR := Lib.hid hr; clear hb_ hr hg)))
    exact ⟨⟨2, rfl, by omega, HB⟩, by simp [intOf]⟩
  · have e0 : (((0 + 1 + 1 : Nat) : Int)) = 2 := rfl
    rw [e0]
    clear e0
    by_cases q : 0 < l.length
    · -- a text
      have q' : (0 : Int) < l.length := by omega
      obtain ⟨t, ht⟩ : ∃ t, l[0]? = some t := ⟨_, List.getElem?_eq_getElem q⟩
      obtain ⟨b, off, A5, c5, rfl, x0, hc5, hC5⟩ := slice_at HC.out ht
      have x0 := cell_below HB.out x0
      rw [Nat.add_zero] at x0
      have ht5 := H2.out t (List.mem_of_getElem? ht)
      have ht6 : t.length ≤ 1000000 := by omega
      have htb := textB_le t 500 ht5
      have htp := textB_pos t
      have HTB := Lib.hid (HBY.out t (List.mem_of_getElem? ht))
      obtain ⟨j, hj, hjm⟩ := idx_cut (textB t).length cut htp q0'
      have hjl : (j : Int) < (textB t).length := by omega
      have hlp : (0 : Int) < (textB t).length := by omega
      have hll : ((textB t).length : Int) ≤ 509 := by omega
      have hd : Hid (textD (((textB t).take j).drop 0) 500 = ([], 0, 40)) := Lib.hid (textD_cut t (by omega) j hj 500 (by omega))
      have HC5 := Lib.hid (Kd.C_below hC5 HB.out)
      have E0 := Lib.hid x0
      clear ht hC5 x0
      go_upto_region 10 with (first | ((with_reducible go_at_call 16); go_must (refine (num_t n _ n0 n1).mono ?_; rintro e w' ⟨A3, c3, rfl, hc3, h3, hb⟩; have x0_ := cell_below hb E0.out; have c5_ := Kd.C_below HC5.out hb; clear E0 HC5; have E0 := Lib.hid x0_; have HC5 := Lib.hid c5_; clear x0_ c5_ h3; have hb_ := below_step HB.out hb; clear HB; have HB := Lib.hid hb_; clear hb_ hb)))
      have x0 := E0.out
      go_wp2_with (first | ((with_reducible go_at_call 14); go_must (refine (own_t A5 c5 t _ ht6 HC5.out hc5).mono ?_; rintro e w' ⟨A6, c6, rfl, hc6, h6, hb⟩; have hb_ := below_step HB.out hb; clear HB; have HB := Lib.hid hb_; clear hb_ hb; clear HC5; have H6 := Lib.hid h6; clear h6)) | ((with_reducible go_at_call 13); go_must (refine (text_t A6 c6 t _ ht6 H6.out hc6).mono ?_; rintro e w' ⟨A7, c7, rfl, hc7, h7, hb⟩; have hb_ := below_step HB.out hb; clear HB; have HB := Lib.hid hb_; clear hb_ hb; clear H6; have H7 := Lib.hid h7; clear h7)) | ((with_reducible go_at_call 21); go_must (refine (read_cut w A7 c7 0 (textB t) j _ HB.out H7.out hj (by omega) (by omega)).mono ?_; rintro e w' ⟨r, Ar, cr, rfl, hr, hb⟩; clear H7; have HR := Lib.hid hr; have hb_ := below_step HB.out hb; clear HB; have HB := Lib.hid hb_; clear hb_ hb; clear hr)) | ((with_reducible go_at_call 25); go_must (refine (text_b w.heap.size r Ar cr _ 0 _ _ _ _ _ HR.out (by rw [List.length_take]; omega) (byt_take (textB_byt t HTB.out) _) (by omega) hd.out).mono ?_; rintro y w' ⟨At, ct, rfl, hct, hT, hr, hg⟩; clear hT; have hb_ := below_g HB.out hg HB.out.size hr.2.1; clear HB HR; have HB := Lib.hid hb_; have HR := Lib.hid hr; clear hb_ hr hg)) | ((with_reducible go_at_call 26); go_must (refine (err_is r _ _ HR.out.c2).mono ?_; rintro y w' ⟨rfl, rfl⟩)) | ((with_reducible go_at_call 28); go_must (refine (end_b w.heap.size r Ar cr _ _ _ _ _ HR.out (by rw [List.length_take]; omega) (endD_cut _)).mono ?_; rintro y w' ⟨rfl, hr, hg⟩; have hb_ := below_g HB.out hg HB.out.size hr.2.1; clear HB HR; have HB := Lib.hid hb_; have HR := Lib.hid hr; clear hb_ hr hg)))
      exact ⟨⟨3, rfl, by omega, HB⟩, by simp [intOf]⟩
    · have q' : (l.length : Int) = 0 := by omega
      have q'' : l.length = 0 := by omega
      obtain ⟨j, hj, hjm⟩ := idx_cut (numB n).length cut hNp q0'
      have hjl : (j : Int) < (numB n).length := by omega
      have hd : Hid (numD (((numB n).take j).drop 0) 18446744073709551615 = (0, 0, 40)) := Lib.hid (numD_cut n n0 j hj _)
      have hlen : ((numB n).length : Int) ≤ 9 := by omega
      have hlp : (0 : Int) < (numB n).length := by omega
      clear q q''
      go_wp2_with (first | ((with_reducible go_at_call 16); go_must (refine (num_t n _ n0 n1).mono ?_; rintro e w' ⟨A3, c3, rfl, hc3, h3, hb⟩; have hb_ := below_step HB.out hb; clear HB; have HB := Lib.hid hb_; clear hb_ hb; have H3 := Lib.hid h3; clear h3)) | ((with_reducible go_at_call 21); go_must (refine (read_cut w A3 c3 0 (numB n) j _ HB.out H3.out hj (by omega) (by omega)).mono ?_; rintro e w' ⟨r, Ar, cr, rfl, hr, hb⟩; clear H3; have HR := Lib.hid hr; have hb_ := below_step HB.out hb; clear HB; have HB := Lib.hid hb_; clear hb_ hb; clear hr)) | ((with_reducible go_at_call 22); go_must (refine (num_b w.heap.size r Ar cr _ 0 _ _ _ _ _ HR.out (by rw [List.length_take]; omega) (byt_take (numB_byt n) _) (by omega) (by omega) hd.out).mono ?_; rintro y w' ⟨rfl, hr, hg⟩; have hb_ := below_g HB.out hg HB.out.size hr.2.1; clear HB HR; have HB := Lib.hid hb_; have HR := Lib.hid hr; clear hb_ hr hg)) | ((with_reducible go_at_call 26); go_must (refine (err_is r _ _ HR.out.c2).mono ?_; rintro y w' ⟨rfl, rfl⟩)) | ((with_reducible go_at_call 28); go_must (refine (end_b w.heap.size r Ar cr _ _ _ _ _ HR.out (by rw [List.length_take]; omega) (endD_cut _)).mono ?_; rintro y w' ⟨rfl, hr, hg⟩; have hb_ := below_g HB.out hg HB.out.size hr.2.1; clear HB HR; have HB := Lib.hid hb_; have HR := Lib.hid hr; clear hb_ hr hg)))
      exact ⟨⟨3, rfl, by omega, HB⟩, by simp [intOf]⟩
  · have hk0 : k = 0 := by omega
    subst hk0
    go_wp2_with (first | ((with_reducible go_at_call 11); go_must (refine (awake_ok _).mono ?_; rintro e w' ⟨rfl, hb⟩; have hb_ := below_step HB.out hb; clear HB; have HB := Lib.hid hb_; clear hb_ hb)))
    go_ret
    exact ⟨rfl, HB.out⟩
end Go.Proofs.Ytnkaalapjlmmiaa.WireCuts
