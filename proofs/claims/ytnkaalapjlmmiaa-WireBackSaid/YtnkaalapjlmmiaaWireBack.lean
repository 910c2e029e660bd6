/- PROVED: the law WireBack: the walk. No condition. -/
import Derived.Test.YtnkaalapjlmmiaaWireT2
import Derived.Test.YtnkaalapjlmmiaaWKept
import Derived.Test.YtnkaalapjlmmiaaWApart
import Derived.Test.YtnkaalapjlmmiaaLRead
import Derived.Test.YtnkaalapjlmmiaaWApart
import Derived.WalkKit
import Derived.WalkSpells
import Derived.WalkLawsBesides
import Derived.WalkMore
import Derived.Outline
import Derived.Lib.Hide
import Derived.BigQuiet
import Derived.Deep.QuietTactic
import Derived.Deep.RegionHeld3
import Derived.Deep.RegionLaw
import Derived.Deep.LoopGhost
import Derived.Deep.DeepCutAuto
namespace Go.Proofs.Ytnkaalapjlmmiaa.WireBack
open Go.RowKit Go.Proofs.Ytnkaalapjlmmiaa.PWireWrites Go.Proofs.Ytnkaalapjlmmiaa.WirePure Go.Proofs.YtnkaalapjlmmiaaW.PrintWords Go.Proofs.YtnkaalapjlmmiaaW.PrintLast Go.Proofs.YtnkaalapjlmmiaaW.PrintMore
open Go.Proofs.Ytnkaalapjlmmiaa.WireW (slice_at cell_below num_ok text_ok list_ok)
open Go.Proofs.Ytnkaalapjlmmiaa.WireR Go.Proofs.Ytnkaalapjlmmiaa.WireR2 Go.Proofs.Ytnkaalapjlmmiaa.WireR3
open Go.Proofs.Ytnkaalapjlmmiaa.WireT Go.Proofs.Ytnkaalapjlmmiaa.WireD Go.Proofs.Ytnkaalapjlmmiaa.WirePure2
open Go.Proofs.Ytnkaalapjlmmiaa.WireT2
set_option linter.unusedSimpArgs false
set_option linter.unusedVariables false
theorem all_drop (n : Int) (l : List (List Int)) (behind : List Int) (k : Nat) : (numB n ++ (listB l ++ (textsB l ++ behind))).drop ((numB n).length + (listB l).length + (textsB (l.take k)).length) = textsB (l.drop k) ++ behind := by
  rw [← List.drop_drop, ← List.drop_drop, List.drop_left, List.drop_left, texts_split l k, List.append_assoc, List.drop_left]
set_option maxHeartbeats 4000000 in
set_option maxRecDepth 100000 in
theorem back_walk (n : Int) (A : Option Addr) (cap : Nat) (l : List (List Int)) (A2 : Option Addr) (c2 : Nat) (bh : List Int) (w : World) (n0 : 0 ≤ n) (n1 : n < 18446744073709551616) (hC : Kd.C kT w A l.length l) (hcap : l.length ≤ cap) (hby : ∀ t ∈ l, Byt t)
    (hC2 : Kd.C (Kd.int .u8) w A2 bh.length bh) (hc2 : bh.length ≤ c2) (hbh : Byt bh) :
    Calls Try.prog 4 #[.int .u64 n, .slice A l.length cap, .slice A2 bh.length c2] w fun e w' => e = .returned (.bool true) ∧ Below w.heap.size w w' := by
  have HC := Lib.hid hC
  have HC2 := Lib.hid hC2
  clear hC hC2
  obtain ⟨lb, hlb⟩ : ∃ b, longB l = b := ⟨_, rfl⟩
  have HLB := Lib.hid hlb
  clear hlb
  rcases lb with _ | _
  rotate_left
  · go_enter Try.func4, Try.ntmps4
    go_wp2_with (first | ((with_reducible go_at_call 10); go_must (refine (long_t _ A cap l _ HLB.out HC.out hcap).mono ?_; rintro e w' ⟨rfl, hb⟩; have HB := Lib.hid hb; clear hb)) | ((with_reducible go_at_call 11); go_must (refine (awake_ok _).mono ?_; rintro e w' ⟨rfl, hb⟩; have hb_ := below_step HB.out hb; clear HB; have HB := Lib.hid hb_; clear hb_ hb)))
    go_ret
    exact ⟨rfl, HB.out⟩
  by_cases q0 : 1000 < bh.length
  · have q0' : (1000 : Int) < bh.length := by omega
    go_enter Try.func4, Try.ntmps4
    go_wp2_with (first | ((with_reducible go_at_call 10); go_must (refine (long_t _ A cap l _ HLB.out HC.out hcap).mono ?_; rintro e w' ⟨rfl, hb⟩; have HB := Lib.hid hb; clear hb)) | ((with_reducible go_at_call 11); go_must (refine (awake_ok _).mono ?_; rintro e w' ⟨rfl, hb⟩; have hb_ := below_step HB.out hb; clear HB; have HB := Lib.hid hb_; clear hb_ hb)))
    go_ret
    exact ⟨rfl, HB.out⟩
  have q0' : (bh.length : Int) ≤ 1000 := by omega
  obtain ⟨h1, h2⟩ := long_no HLB.out
  have hL := listB_le l h1 h2
  have hT : (textsB l).length ≤ 60000 := by
    have b3 := textsB_le l 500 h2
    have b4 : l.length * (500 + 9) ≤ 100 * 509 := Nat.mul_le_mul h1 (Nat.le_refl _)
    omega
  have hN := numB_le n
  have hTk : ∀ k, (textsB (l.take k)).length ≤ 60000 := fun k => by
    have := congrArg List.length (texts_split l k)
    rw [List.length_append] at this
    omega
  have H2 := Lib.hid h2
  have HTK := Lib.hid hTk
  have h1' : (l.length : Int) ≤ 100 := by omega
  have h1k : l.length ≤ 1000 := by omega
  have H2k := Lib.hid (fun t ht => Nat.le_trans (h2 t ht) (show 500 ≤ 1000 by omega))
  have HBY := Lib.hid hby
  obtain ⟨ALL, hALL⟩ : ∃ a, a = numB n ++ (listB l ++ (textsB l ++ bh)) := ⟨_, rfl⟩
  have hAl : ALL.length ≤ 1000000 := by rw [hALL]; simp only [List.length_append]; omega
  have hAb : Byt ALL := by
    rw [hALL]
    intro x hx
    simp only [List.mem_append] at hx
    rcases hx with hx | hx | hx | hx
    · exact numB_byt n x hx
    · exact listB_byt l hby x hx
    · exact textsB_byt l hby x hx
    · exact hbh x hx
  have HALL := Lib.hid hALL
  have HAB := Lib.hid hAb
  have hd0 : numD (ALL.drop 0) 18446744073709551615 = (n, (numB n).length, 0) := by rw [List.drop_zero, hALL]; exact numD_back n n0 n1 _ _ (by omega)
  have hd1 : listD (ALL.drop (0 + (numB n).length)) (l.length : Int) 500 = (l, (listB l).length, 0) := by
    rw [hALL, Nat.zero_add, List.drop_left]
    exact listD_back l (by omega) _ _ (Int.le_refl _) (fun t ht => ⟨by have := h2 t ht; omega, by have := h2 t ht; omega⟩) _
  have hd2 : ∀ k t, l[k]? = some t → textD (ALL.drop ((numB n).length + (listB l).length + (textsB (l.take k)).length)) (t.length : Int) = (t, (textB t).length, 0) := by
    intro k t ht
    have hk := (List.getElem?_eq_some_iff.1 ht).1
    have hkt := (List.getElem?_eq_some_iff.1 ht).2
    rw [hALL, all_drop, List.drop_eq_getElem_cons hk, hkt]
    simp only [textsB, List.append_assoc]
    exact textD_back t (by have := h2 t (List.mem_of_getElem? ht); omega) _ _ (Int.le_refl _)
  have hd3 : ALL.drop ((numB n).length + (listB l).length + (textsB l).length) = bh := by
    have := all_drop n l bh l.length
    rw [List.take_length, List.drop_length] at this
    rw [hALL, this]
    rfl
  have HD0 := Lib.hid hd0
  have HD1 := Lib.hid hd1
  have HD2 := Lib.hid hd2
  have HD3 := Lib.hid hd3
  clear h2 hby hbh hALL hAb hd0 hd1 hd2 hd3 hTk q0
  go_enter Try.func4, Try.ntmps4
  go_upto_region 6 with (first | ((with_reducible go_at_call 10); go_must (refine (long_t _ A cap l _ HLB.out HC.out hcap).mono ?_; rintro e w' ⟨rfl, hb⟩; have HB := Lib.hid hb; clear hb)) | ((with_reducible go_at_call 16); go_must (refine (num_ok n _ n0 n1).mono ?_; rintro e w' ⟨v, rfl, hr, hb⟩; have HV := Lib.hid (Kd.R_lower hr HB.out.size); have hb_ := below_step HB.out hb; clear HB; have HB := Lib.hid hb_; clear hb_ hb; clear hr)) | ((with_reducible go_at_call 19); go_must (refine (copies_t A cap l _ h1k H2k.out (Kd.C_below HC.out HB.out) hcap).mono ?_; rintro e w' ⟨A5, c5, rfl, hc5, h5, hb⟩; have hv_ := Kd.R_below HV.out hb; clear HV; have HV := Lib.hid hv_; clear hv_; have hb_ := below_step HB.out hb; clear HB; have HB := Lib.hid hb_; clear hb_ hb; have H5 := Lib.hid h5; clear h5)) | ((with_reducible go_at_call 18); go_must (refine (list_t A5 c5 l _ h1k H2k.out H5.out hc5).mono ?_; rintro e w' ⟨A6, c6, rfl, hc6, h6, hb⟩; have hv_ := Kd.R_below HV.out hb; clear HV; have HV := Lib.hid hv_; clear hv_; have hb_ := below_step HB.out hb; clear HB; have HB := Lib.hid hb_; clear hb_ hb; clear H5; have H6 := Lib.hid h6; clear h6)) | ((with_reducible refine gate_builtin (b := .append) (xs := #[.tmp 21, .tmp 24]) rfl ?_); at_builtin; go_must (refine Kd.R_append_rows (Kd.int .u8) (w0 := w) (w.heap.size) rfl (.tmp 21) (.tmp 24) 27 5 (.int .u8 0) 1 rfl Try.underlying27 info5 rfl (by decide) (by omega) (_) (numB n) (listB l) _ _ _ (fun _ => True) (fun _ => False) rfl rfl (HV.out) (H6.out) (fun x cs h => h) (fun _ h => h.elim) (fun _ _ => trivial) HB.out HB.out.size ?aL ?_; (case aL => omega); intro vA wA ho hb hg hat; clear HB HV; have HB := Lib.hid hb; have HV := Lib.hid ho; clear ho hb hg hat)))
  clear H6 hc6
  go_loopw [7, 8] (fun u7 u8 wr => ∃ (k : Nat) (v : Value), u8 = .int .i64 k ∧ k ≤ l.length ∧ u7 = v ∧ Hid (Below w.heap.size w wr) ∧ Hid (Kd.R (Kd.int .u8) 5 wr w.heap.size (fun _ => True) v (numB n ++ (listB l ++ textsB (l.take k))))) (fun _ u8 _ => l.length - (intOf u8).toNat)
  case atStart => exact ⟨0, _, rfl, Nat.zero_le _, rfl, HB, Lib.hid (by have := HV.out; simpa [textsB] using this)⟩
  clear HB HV
  obtain ⟨k, v, rfl, hk, rfl, HB, HV⟩ := hrel
  by_cases hlt : k < l.length
  · have hlt' : (k : Int) < l.length := by omega
    obtain ⟨t, ht⟩ : ∃ t, l[k]? = some t := ⟨_, List.getElem?_eq_getElem hlt⟩
    obtain ⟨b, off, A5, c5, rfl, e0, hc5, hC5⟩ := slice_at HC.out ht
    have e0 := cell_below HB.out e0
    have HC5 := Lib.hid (Kd.C_below hC5 HB.out)
    have ht5 := H2.out t (List.mem_of_getElem? ht)
    have ht6 : t.length ≤ 1000000 := by omega
    have hb6 : (textB t).length ≤ 509 := textB_le t 500 ht5
    have hk6 := HTK.out k
    have HNX : Hid (numB n ++ (listB l ++ textsB (l.take (k + 1))) = numB n ++ (listB l ++ textsB (l.take k)) ++ textB t) := Lib.hid (by rw [List.take_add_one, ht, textsB_append]; simp [textsB])
    obtain ⟨bs, hbs⟩ : ∃ bs, bs = numB n ++ (listB l ++ textsB (l.take k)) := ⟨_, rfl⟩
    have hbl : bs.length ≤ 200000 := by rw [hbs]; simp only [List.length_append]; omega
    rw [← hbs] at HV HNX
    clear hC5 ht hbs
    go_wp2_with (first | ((with_reducible go_at_call 14); go_must (refine (own_t A5 c5 t _ ht6 HC5.out hc5).mono ?_; rintro e w' ⟨A6, c6, rfl, hc6, h6, hb⟩; have hv_ := Kd.R_below HV.out hb; clear HV; have HV := Lib.hid hv_; clear hv_; have hb_ := below_step HB.out hb; clear HB; have HB := Lib.hid hb_; clear hb_ hb; clear HC5; have H6 := Lib.hid h6; clear h6)) | ((with_reducible go_at_call 13); go_must (refine (text_t A6 c6 t _ ht6 H6.out hc6).mono ?_; rintro e w' ⟨A7, c7, rfl, hc7, h7, hb⟩; have hv_ := Kd.R_below HV.out hb; clear HV; have HV := Lib.hid hv_; clear hv_; have hb_ := below_step HB.out hb; clear HB; have HB := Lib.hid hb_; clear hb_ hb; clear H6; have H7 := Lib.hid h7; clear h7)) | ((with_reducible refine gate_builtin (b := .append) (xs := #[.tmp 32, .tmp 38]) rfl ?_); at_builtin; go_must (refine Kd.R_append_rows (Kd.int .u8) (w0 := w) (w.heap.size) rfl (.tmp 32) (.tmp 38) 27 5 (.int .u8 0) 1 rfl Try.underlying27 info5 rfl (by decide) (by omega) (_) (bs) (textB t) _ _ _ (fun _ => True) (fun _ => False) rfl rfl (HV.out) (H7.out) (fun x cs h => h) (fun _ h => h.elim) (fun _ _ => trivial) HB.out HB.out.size ?aL ?_; (case aL => omega); intro vA wA ho hb hg hat; clear HB HV; have HB := Lib.hid hb; have HV := Lib.hid ho; clear ho hb hg hat)))
    exact ⟨⟨k + 1, _, by go_num, by omega, rfl, HB, Lib.hid (by rw [HNX.out]; exact HV.out)⟩, by simp [intOf]; omega⟩
  · have hlt' : (l.length : Int) ≤ k := by omega
    have HV2 : Hid (Kd.R (Kd.int .u8) 5 wr w.heap.size (fun _ => True) u7 (numB n ++ (listB l ++ textsB l))) := Lib.hid (by have := HV.out; rw [List.take_of_length_le (by omega)] at this; exact this)
    have hbl : (numB n ++ (listB l ++ textsB l)).length ≤ 200000 := by simp only [List.length_append]; omega
    obtain ⟨bs, hbs⟩ : ∃ bs, bs = numB n ++ (listB l ++ textsB l) := ⟨_, rfl⟩
    rw [← hbs] at HV2 hbl
    have HBS : Hid (bs ++ bh = ALL) := Lib.hid (by rw [hbs, HALL.out]; simp)
    clear HV hbs hlt
    go_upto_region 13 with (first | ((with_reducible refine gate_builtin (b := .append) (xs := #[.tmp 40, .tmp 41]) rfl ?_); at_builtin; go_must (refine Kd.R_append_rows (Kd.int .u8) (w0 := w) (w.heap.size) rfl (.tmp 40) (.tmp 41) 27 5 (.int .u8 0) 1 rfl Try.underlying27 info5 rfl (by decide) (by omega) (u7) (bs) (bh) _ _ _ (fun _ => True) (fun _ => False) rfl rfl (HV2.out) (Kd.C_below HC2.out HB.out) (fun x cs h => h) (fun _ h => h.elim) (fun _ _ => trivial) HB.out HB.out.size ?aL ?_; (case aL => omega); intro vA wA ho hb hg hat; rw [HBS.out] at ho; clear HB HV2; have HB := Lib.hid hb; obtain ⟨Aa, ca, rfl⟩ := Kd.R_slice ho; have HA := Lib.hid (Kd.R_reads' ho); clear ho hb hg hat)) | ((with_reducible go_at_call 21); go_must (refine (read_b w Aa ca ALL _ HB.out HA.out.2.2 HA.out.2.1 hAl).mono ?_; rintro e w' ⟨r, Ar, cr, rfl, hr, hb⟩; clear HA; have HR := Lib.hid hr; have hb_ := below_step HB.out hb; clear HB; have HB := Lib.hid hb_; clear hb_ hb; clear hr)) | ((with_reducible go_at_call 22); go_must (refine (num_b w.heap.size r Ar cr ALL 0 _ _ _ _ _ HR.out hAl HAB.out (by omega) (by omega) HD0.out).mono ?_; rintro y w' ⟨rfl, hr, hg⟩; have hb_ := below_g HB.out hg HB.out.size hr.2.1; clear HB HR; have HB := Lib.hid hb_; have HR := Lib.hid hr; clear hb_ hr hg)) | ((with_reducible go_at_call 24); go_must (refine (list_b w.heap.size r Ar cr ALL (0 + (numB n).length) _ _ _ _ _ _ HR.out hAl HAB.out (by omega) (by omega) HD1.out).mono ?_; rintro y w' ⟨As, cs, rfl, hs, hr, hg⟩; have HS := Lib.hid (Kd.S_reads' hs); have hb_ := below_g HB.out hg HB.out.size hr.2.1; clear HB HR; have HB := Lib.hid hb_; have HR := Lib.hid hr; clear hb_ hr hg; clear hs)) | ((with_reducible go_at_call 23); go_must (refine (same4_t As cs _ A cap _ l _ h1k H2k.out rfl rfl HS.out.2.2 HS.out.2.1 (Kd.C_below HC.out HB.out) hcap).mono ?_; rintro y w' ⟨rfl, hb⟩; clear HS; have hr_ := HR.out.below hb; clear HR; have HR := Lib.hid hr_; clear hr_; have hb_ := below_step HB.out hb; clear HB; have HB := Lib.hid hb_; clear hb_ hb)))
    clear HBS
    go_upto_region 14 with (fail)
    go_loopw [10] (fun u10 wr2 => ∃ k : Nat, u10 = .int .i64 k ∧ k ≤ l.length ∧ Hid (Below w.heap.size w wr2) ∧ Hid (Rd w.heap.size wr2 r Ar cr ALL ((numB n).length + (listB l).length + (textsB (l.take k)).length) 0)) (fun u10 _ => l.length - (intOf u10).toNat)
    case atStart => exact ⟨0, rfl, Nat.zero_le _, HB, Lib.hid (by have := HR.out; rw [Nat.zero_add] at this; simpa [textsB] using this)⟩
    clear HB HR
    obtain ⟨j, rfl, hj, HB, HR⟩ := hrel
    by_cases hjl : j < l.length
    · have hjl' : (j : Int) < l.length := by omega
      obtain ⟨t, ht⟩ : ∃ t, l[j]? = some t := ⟨_, List.getElem?_eq_getElem hjl⟩
      obtain ⟨b, off, A5, c5, rfl, e0, hc5, hC5⟩ := slice_at HC.out ht
      have ht5 := H2.out t (List.mem_of_getElem? ht)
      have ht6 : t.length ≤ 1000000 := by omega
      have ht7 : (t.length : Int) ≤ 9223372036854775807 := by omega
      have HX := Lib.hid (HD2.out j t ht)
      have HNX : Hid ((numB n).length + (listB l).length + (textsB (l.take (j + 1))).length = (numB n).length + (listB l).length + (textsB (l.take j)).length + (textB t).length) := Lib.hid (by rw [List.take_add_one, ht, textsB_append, List.length_append]; simp [textsB]; omega)
      obtain ⟨at_, hat⟩ : ∃ a, a = (numB n).length + (listB l).length + (textsB (l.take j)).length := ⟨_, rfl⟩
      rw [← hat] at HX HNX HR
      have E0 := Lib.hid e0
      have HC5 := Lib.hid hC5
      clear e0 hC5 ht hat
      go_upto_region 16 with (fail)
      have hbd := below_drew1 HB.out
      have hrd : Rd w.heap.size (World.drew wr) r Ar cr ALL at_ 0 := HR.out.drewN 1
      clear HB HR
      have HB := Lib.hid hbd
      have HR := Lib.hid hrd
      have HSC := Lib.hid (cell_below hbd E0.out)
      clear hbd hrd
      go_region_held3 (fun w2 => w2.cell? ⟨b, off + j, none⟩ = some (.slice A5 t.length c5)) (first | with_reducible exact HSC.out) (first | ((with_reducible go_at_call 25); go_must (refine (text_b w.heap.size r Ar cr ALL at_ _ _ _ _ _ HR.out hAl HAB.out ht7 HX.out).mono ?_; rintro y w2 ⟨At, ct, rfl, hct, hT, hr, hg⟩; have HT := Lib.hid hT; clear hT; have hb_ := below_g HB.out hg HB.out.size hr.2.1; clear HB HR; have HB := Lib.hid hb_; have HR := Lib.hid hr; clear hb_ hr hg; have hs_ := cell_below HB.out E0.out; clear HSC; have HSC := Lib.hid hs_; clear hs_)) | ((with_reducible go_at_call 12); with_reducible refine (same_eq At ct _ A5 c5 _ t _ ht6 rfl rfl HT.out hct (Kd.C_below HC5.out HB.out) hc5).mono ?_; rintro y w2 ⟨rfl, hb⟩; have hr_ := HR.out.below hb; clear HR HT; have HR := Lib.hid hr_; clear hr_; have hb_ := below_step HB.out hb; clear HB; have HB := Lib.hid hb_; clear hb_ hb; have hs_ := cell_below HB.out E0.out; clear HSC; have HSC := Lib.hid hs_; clear hs_))
      all_goals
        go_wp2
        exact ⟨⟨j + 1, by go_num, by omega, HB, Lib.hid (by rw [HNX.out]; exact HR.out)⟩, by simp [intOf]; omega⟩
    · have hjl' : (l.length : Int) ≤ j := by omega
      obtain ⟨at_, hat⟩ : ∃ a, a = (numB n).length + (listB l).length + (textsB (l.take j)).length := ⟨_, rfl⟩
      have hdr : ALL.drop at_ = bh := by rw [hat, List.take_of_length_le (by omega)]; exact HD3.out
      have hal : (ALL.length : Int) - at_ = bh.length := by
        have h1 := congrArg List.length hdr
        rw [List.length_drop] at h1
        have := HR.out.2.2.1
        omega
      rw [← hat] at HR
      have HDR := Lib.hid hdr
      have HAL := Lib.hid hal
      have hat2 := HR.out.2.2.1
      clear hdr hal hat hjl
      by_cases q : bh.length = 0
      · have q' : ((bh.length : Int) == 0) = true := by rw [q]; rfl
        have hE : Hid (endD (ALL.drop at_) 0 = 0) := Lib.hid (by rw [HDR.out]; unfold endD; rw [if_neg (by omega)])
        clear q
        go_wp2_with (first | ((with_reducible go_at_call 26); go_must (refine (err_is r _ _ HR.out.c2).mono ?_; rintro y w' ⟨rfl, rfl⟩)) | ((with_reducible go_at_call 27); go_must (refine (left_is r Ar ALL.length cr at_ _ HR.out.c0 HR.out.c1 hat2 (by omega)).mono ?_; rw [HAL.out]; rintro y w' ⟨rfl, hq⟩; have hr_ := HR.out.quiet hq; have hb_ := below_q HB.out hq; clear HR HB hq; have HR := Lib.hid hr_; have HB := Lib.hid hb_; clear hr_ hb_)) | ((with_reducible go_at_call 28); go_must (refine (end_b w.heap.size r Ar cr ALL at_ _ _ _ HR.out hAl hE.out).mono ?_; rintro y w' ⟨rfl, hr, hg⟩; have hb_ := below_g HB.out hg HB.out.size hr.2.1; clear HB HR; have HB := Lib.hid hb_; have HR := Lib.hid hr; clear hb_ hr hg)) | ((with_reducible go_at_call 11); go_must (refine (awake_ok _).mono ?_; rintro e w' ⟨rfl, hb⟩; have hb_ := below_step HB.out hb; clear HB; have HB := Lib.hid hb_; clear hb_ hb)))
        go_ret
        exact ⟨rfl, HB.out⟩
      · have q' : ((bh.length : Int) == 0) = false := by rw [beq_eq_false_iff_ne]; omega
        have hE : Hid (endD (ALL.drop at_) 0 = 43) := Lib.hid (by rw [HDR.out]; unfold endD; rw [if_pos ⟨rfl, by omega⟩])
        clear q
        go_wp2_with (first | ((with_reducible go_at_call 26); go_must (refine (err_is r _ _ HR.out.c2).mono ?_; rintro y w' ⟨rfl, rfl⟩)) | ((with_reducible go_at_call 27); go_must (refine (left_is r Ar ALL.length cr at_ _ HR.out.c0 HR.out.c1 hat2 (by omega)).mono ?_; rw [HAL.out]; rintro y w' ⟨rfl, hq⟩; have hr_ := HR.out.quiet hq; have hb_ := below_q HB.out hq; clear HR HB hq; have HR := Lib.hid hr_; have HB := Lib.hid hb_; clear hr_ hb_)) | ((with_reducible go_at_call 28); go_must (refine (end_b w.heap.size r Ar cr ALL at_ _ _ _ HR.out hAl hE.out).mono ?_; rintro y w' ⟨rfl, hr, hg⟩; have hb_ := below_g HB.out hg HB.out.size hr.2.1; clear HB HR; have HB := Lib.hid hb_; have HR := Lib.hid hr; clear hb_ hr hg)) | ((with_reducible go_at_call 11); go_must (refine (awake_ok _).mono ?_; rintro e w' ⟨rfl, hb⟩; have hb_ := below_step HB.out hb; clear HB; have HB := Lib.hid hb_; clear hb_ hb)))
        go_ret
        exact ⟨rfl, HB.out⟩
end Go.Proofs.Ytnkaalapjlmmiaa.WireBack
