/- PROVED: the law WireWrites: the walk. No condition. -/
import Derived.Test.YtnkaalapjlmmiaaWireT
import Derived.Test.YtnkaalapjlmmiaaWKept
import Derived.Test.YtnkaalapjlmmiaaWApart
import Derived.Test.YtnkaalapjlmmiaaLRead
import Derived.Test.YtnkaalapjlmmiaaWApart
import Derived.WalkKit
import Derived.WalkSpells
import Derived.WalkLawsBesides
import Derived.WalkMore
import Derived.Outline
import Derived.Lib.Hide
import Derived.BigQuiet
import Derived.Deep.QuietTactic
import Derived.Deep.RegionHeld3
import Derived.Deep.RegionLaw
import Derived.Deep.LoopGhost
import Derived.Deep.DeepCutAuto
namespace Go.Proofs.Ytnkaalapjlmmiaa.WireWrites
open Go.RowKit Go.Proofs.Ytnkaalapjlmmiaa.PWireWrites Go.Proofs.Ytnkaalapjlmmiaa.WirePure Go.Proofs.YtnkaalapjlmmiaaW.PrintWords Go.Proofs.YtnkaalapjlmmiaaW.PrintLast Go.Proofs.YtnkaalapjlmmiaaW.PrintMore
open Go.Proofs.Ytnkaalapjlmmiaa.WireW (slice_at cell_below num_ok text_ok list_ok)
open Go.Proofs.Ytnkaalapjlmmiaa.WireR Go.Proofs.Ytnkaalapjlmmiaa.WireR2 Go.Proofs.Ytnkaalapjlmmiaa.WireR3
open Go.Proofs.Ytnkaalapjlmmiaa.WireT
set_option linter.unusedSimpArgs false
set_option linter.unusedVariables false
set_option maxHeartbeats 4000000 in
set_option maxRecDepth 100000 in
theorem writes_walk (n : Int) (A : Option Addr) (cap : Nat) (l : List (List Int)) (w : World) (n0 : 0 ≤ n) (n1 : n < 18446744073709551616) (hC : Kd.C kT w A l.length l) (hcap : l.length ≤ cap) :
    Calls Try.prog 3 #[.int .u64 n, .slice A l.length cap] w fun e w' => e = .returned (.bool true) ∧ Below w.heap.size w w' := by
  have HC := Lib.hid hC
  clear hC
  obtain ⟨lb, hlb⟩ : ∃ b, longB l = b := ⟨_, rfl⟩
  have HLB := Lib.hid hlb
  clear hlb
  rcases lb with _ | _
  rotate_left
  · go_enter Try.func3, Try.ntmps3
    go_wp2_with (first | ((with_reducible go_at_call 10); go_must (refine (long_t _ A cap l _ HLB.out HC.out hcap).mono ?_; rintro e w' ⟨rfl, hb⟩; have HB := Lib.hid hb; clear hb)) | ((with_reducible go_at_call 11); go_must (refine (awake_ok _).mono ?_; rintro e w' ⟨rfl, hb⟩; have hb_ := below_step HB.out hb; clear HB; have HB := Lib.hid hb_; clear hb_ hb)))
    go_ret
    exact ⟨rfl, HB.out⟩
  obtain ⟨h1, h2⟩ := long_no HLB.out
  have H2 := Lib.hid h2
  have HLE := listB_le l h1 h2
  have h1' : (l.length : Int) ≤ 100 := by omega
  have h1k : l.length ≤ 1000 := by omega
  have H2k := Lib.hid (fun t ht => Nat.le_trans (h2 t ht) (show 500 ≤ 1000 by omega))
  clear h2
  go_enter Try.func3, Try.ntmps3
  go_upto_region 4 with (first | ((with_reducible go_at_call 10); go_must (refine (long_t _ A cap l _ HLB.out HC.out hcap).mono ?_; rintro e w' ⟨rfl, hb⟩; have HB := Lib.hid hb; clear hb)))
  go_loopw [5] (fun u5 wr => ∃ k : Nat, u5 = .int .i64 k ∧ k ≤ l.length ∧ Hid (Below w.heap.size w wr)) (fun u5 _ => l.length - (intOf u5).toNat)
  case atStart => exact ⟨0, rfl, Nat.zero_le _, HB⟩
  clear HB
  obtain ⟨k, rfl, hk, HB⟩ := hrel
  by_cases hlt : k < l.length
  · have hlt' : (k : Int) < l.length := by omega
    obtain ⟨t, ht⟩ : ∃ t, l[k]? = some t := ⟨_, List.getElem?_eq_getElem hlt⟩
    obtain ⟨b, off, A2, c2, rfl, e0, hc2, hC2⟩ := slice_at HC.out ht
    have ht5 := H2.out t (List.mem_of_getElem? ht)
    have ht6 : t.length ≤ 1000000 := by omega
    have hb6 : (textB t).length ≤ 1000000 := by have := textB_le t 500 ht5; omega
    go_upto_region 6 with (fail)
    have hbd := below_drew1 HB.out
    have HSC := Lib.hid (show (World.drew wr).cell? ⟨b, off + k, none⟩ = some (.slice A2 t.length c2) by rw [World.cell?_drew]; exact cell_below HB.out e0)
    clear HB e0 ht
    have HB := Lib.hid hbd
    have HA := Lib.hid (Kd.C_below hC2 hbd)
    clear hbd hC2
    go_region_held3 (fun w2 => w2.cell? ⟨b, off + k, none⟩ = some (.slice A2 t.length c2)) (first | with_reducible exact HSC.out) (first | ((with_reducible go_at_call 14); with_reducible refine (own_t A2 c2 t _ ht6 HA.out hc2).mono ?_; rintro e w2 ⟨Ao, co, rfl, hco, hO, hb⟩; have hs_ := cell_below hb HSC.out; have hb2_ := below_step HB.out hb; (try (have hk_ := Kd.C_below HA.out hb; clear HA; have HA := Lib.hid hk_; clear hk_)); (try (have hk_ := Kd.C_below HT.out hb; clear HT; have HT := Lib.hid hk_; clear hk_)); (try (have hk_ := Kd.C_below HR.out hb; clear HR; have HR := Lib.hid hk_; clear hk_)); clear HB HSC; have HB := Lib.hid hb2_; have HSC := Lib.hid hs_; clear hb2_ hs_ hb; have HO := Lib.hid hO; clear hO) | ((with_reducible go_at_call 13); with_reducible refine (text_t Ao co t _ ht6 HO.out hco).mono ?_; rintro e w2 ⟨At, ct, rfl, hct, hT, hb⟩; have hs_ := cell_below hb HSC.out; have hb2_ := below_step HB.out hb; (try (have hk_ := Kd.C_below HA.out hb; clear HA; have HA := Lib.hid hk_; clear hk_)); (try (have hk_ := Kd.C_below HO.out hb; clear HO; have HO := Lib.hid hk_; clear hk_)); (try (have hk_ := Kd.C_below HR.out hb; clear HR; have HR := Lib.hid hk_; clear hk_)); clear HB HSC; have HB := Lib.hid hb2_; have HSC := Lib.hid hs_; clear hb2_ hs_ hb; have HT := Lib.hid hT; clear hT) | ((with_reducible go_at_call 15); with_reducible refine (rtext_t A2 c2 t _ ht6 HA.out hc2).mono ?_; rintro e w2 ⟨Ar, cr, rfl, hcr, hR, hb⟩; have hs_ := cell_below hb HSC.out; have hb2_ := below_step HB.out hb; (try (have hk_ := Kd.C_below HA.out hb; clear HA; have HA := Lib.hid hk_; clear hk_)); (try (have hk_ := Kd.C_below HO.out hb; clear HO; have HO := Lib.hid hk_; clear hk_)); (try (have hk_ := Kd.C_below HT.out hb; clear HT; have HT := Lib.hid hk_; clear hk_)); clear HB HSC; have HB := Lib.hid hb2_; have HSC := Lib.hid hs_; clear hb2_ hs_ hb; have HR := Lib.hid hR; clear hR) | ((with_reducible go_at_call 12); with_reducible refine (same_eq At ct _ Ar cr _ (textB t) _ hb6 rfl rfl HT.out hct HR.out hcr).mono ?_; rintro e w2 ⟨rfl, hb⟩; have hs_ := cell_below hb HSC.out; have hb2_ := below_step HB.out hb; clear HB HSC; have HB := Lib.hid hb2_; have HSC := Lib.hid hs_; clear hb2_ hs_ hb))
    all_goals
      go_wp2
      exact ⟨⟨k + 1, by go_num, by omega, HB⟩, by simp [intOf]; omega⟩
  · have hlt' : (l.length : Int) ≤ k := by omega
    go_wp2_with (first | ((with_reducible go_at_call 16); go_must (refine (num_t n _ n0 n1).mono ?_; rintro e w' ⟨A3, c3, rfl, hc3, h3, hb⟩; have hb_ := below_step HB.out hb; clear HB; have HB := Lib.hid hb_; clear hb_ hb; have H3 := Lib.hid h3; clear h3)) | ((with_reducible go_at_call 17); go_must (refine (rnum_t n _ n0 n1).mono ?_; rintro e w' ⟨A4, c4, rfl, hc4, h4, hb⟩; (try (have hk_ := Kd.C_below H3.out hb; clear H3; have H3 := Lib.hid hk_; clear hk_)); have hb_ := below_step HB.out hb; clear HB; have HB := Lib.hid hb_; clear hb_ hb; have H4 := Lib.hid h4; clear h4; have tok1 := True.intro)) | ((with_reducible go_at_call 12); have _t := tok1; clear _t; go_must (clear tok1; refine (same_eq A3 c3 _ A4 c4 _ (numB n) _ (by have := numB_le n; omega) rfl rfl H3.out hc3 H4.out hc4).mono ?_; rintro e w' ⟨rfl, hb⟩; have hb_ := below_step HB.out hb; clear HB; have HB := Lib.hid hb_; clear hb_ hb; clear H3 H4)) | ((with_reducible go_at_call 19); go_must (refine (copies_t A cap l _ h1k H2k.out (Kd.C_below HC.out HB.out) hcap).mono ?_; rintro e w' ⟨A5, c5, rfl, hc5, h5, hb⟩; have hb_ := below_step HB.out hb; clear HB; have HB := Lib.hid hb_; clear hb_ hb; have H5 := Lib.hid h5; clear h5)) | ((with_reducible go_at_call 18); go_must (refine (list_t A5 c5 l _ h1k H2k.out H5.out hc5).mono ?_; rintro e w' ⟨A6, c6, rfl, hc6, h6, hb⟩; have hb_ := below_step HB.out hb; clear HB; have HB := Lib.hid hb_; clear hb_ hb; clear H5; have H6 := Lib.hid h6; clear h6)) | ((with_reducible go_at_call 20); go_must (refine (rlist_t A cap l _ h1k H2k.out (Kd.C_below HC.out HB.out) hcap).mono ?_; rintro e w' ⟨A7, c7, rfl, hc7, h7, hb⟩; (try (have hk_ := Kd.C_below H6.out hb; clear H6; have H6 := Lib.hid hk_; clear hk_)); have hb_ := below_step HB.out hb; clear HB; have HB := Lib.hid hb_; clear hb_ hb; have H7 := Lib.hid h7; clear h7)) | ((with_reducible go_at_call 12); go_must (refine (same_eq A6 c6 _ A7 c7 _ (listB l) _ (by omega) rfl rfl H6.out hc6 H7.out hc7).mono ?_; rintro e w' ⟨rfl, hb⟩; have hb_ := below_step HB.out hb; clear HB; have HB := Lib.hid hb_; clear hb_ hb; clear H6 H7)) | ((with_reducible go_at_call 11); go_must (refine (awake_ok _).mono ?_; rintro e w' ⟨rfl, hb⟩; have hb_ := below_step HB.out hb; clear HB; have HB := Lib.hid hb_; clear hb_ hb)))
    go_ret
    exact ⟨rfl, HB.out⟩
end Go.Proofs.Ytnkaalapjlmmiaa.WireWrites
