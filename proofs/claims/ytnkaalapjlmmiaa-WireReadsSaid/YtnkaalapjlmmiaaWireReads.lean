/- PROVED: the law WireReads: the walk. No condition. -/
import Derived.Test.YtnkaalapjlmmiaaWireE
import Derived.Test.YtnkaalapjlmmiaaWireT2
import Derived.Test.YtnkaalapjlmmiaaWKept
import Derived.Test.YtnkaalapjlmmiaaWApart
import Derived.Test.YtnkaalapjlmmiaaLRead
import Derived.Test.YtnkaalapjlmmiaaWApart
import Derived.WalkKit
import Derived.WalkSpells
import Derived.WalkLawsBesides
import Derived.WalkMore
import Derived.Outline
import Derived.Lib.Hide
import Derived.BigQuiet
import Derived.Deep.QuietTactic
import Derived.Deep.RegionHeld3
import Derived.Deep.RegionLaw
import Derived.Deep.LoopGhost
import Derived.Deep.DeepCutAuto
namespace Go.Proofs.Ytnkaalapjlmmiaa.WireReads
open Go.RowKit Go.Proofs.Ytnkaalapjlmmiaa.PWireWrites Go.Proofs.Ytnkaalapjlmmiaa.WirePure Go.Proofs.YtnkaalapjlmmiaaW.PrintWords Go.Proofs.YtnkaalapjlmmiaaW.PrintLast Go.Proofs.YtnkaalapjlmmiaaW.PrintMore
open Go.Proofs.Ytnkaalapjlmmiaa.WireW (slice_at cell_below num_ok text_ok list_ok)
open Go.Proofs.Ytnkaalapjlmmiaa.WireR Go.Proofs.Ytnkaalapjlmmiaa.WireR2 Go.Proofs.Ytnkaalapjlmmiaa.WireR3
open Go.Proofs.Ytnkaalapjlmmiaa.WireT Go.Proofs.Ytnkaalapjlmmiaa.WireD Go.Proofs.Ytnkaalapjlmmiaa.WirePure2
open Go.Proofs.Ytnkaalapjlmmiaa.WireT2 Go.Proofs.Ytnkaalapjlmmiaa.WireF Go.Proofs.Ytnkaalapjlmmiaa.WireE
set_option linter.unusedSimpArgs false
set_option linter.unusedVariables false
/-- A number of a row. -/
theorem int_at {w : World} {A : Option Addr} {l : List Int} (h : Kd.C (Kd.int .i64) w A l.length l) {k : Nat} {x : Int} (hx : l[k]? = some x) : ∃ b off, A = some ⟨b, off, none⟩ ∧ w.cell? ⟨b, off + k, none⟩ = some (.int .i64 x) := by
  have hk : k < l.length := (List.getElem?_eq_some_iff.1 hx).1
  obtain ⟨b, off, rfl, hb, hel⟩ := LRead.C_addr h (by decide) (by omega)
  obtain ⟨c, hc, hK, hcell⟩ := hel k x hx
  have hK2 : c = [.int .i64 x] := hK
  subst hK2
  refine ⟨b, off, rfl, ?_⟩
  have := hcell 0 _ rfl
  rw [show off + k * (Kd.int .i64).sz + 0 = off + k from by show off + k * 1 + 0 = off + k; omega] at this
  exact this
/-- Both readers, side by side: the law's at r, the reference's at g. -/
def Both (w W : World) (r g : Nat) (Ar : Option Addr) (cr : Nat) (b : List Int) (at_ : Nat) (e : Int) (A' : Option Addr) (c' : Nat) : Prop :=
  RdIs w.heap.size (fun k => k < g) W r Ar cr b at_ e ∧ RfIs w W g A' c' (b.drop at_) e ∧ Below w.heap.size w W ∧ r < g
theorem both_p {w W W1 : World} {r g : Nat} {Ar : Option Addr} {cr : Nat} {b : List Int} {at_ at' : Nat} {e e' : Int} {A' : Option Addr} {c' : Nat} (h : Both w W r g Ar cr b at_ e A' c') (hr : RdIs w.heap.size (fun k => k < g) W1 r Ar cr b at' e') (hg : W.grownBy W1 (some r)) :
    RfIs w W1 g A' c' (b.drop at_) e ∧ Below w.heap.size w W1 := by
  have hb := below_g h.2.2.1 hg h.2.2.1.size h.1.2.1
  exact ⟨h.2.1.other hg (fun q => by have := h.2.2.2; simp at q; omega) hb, hb⟩
theorem both_f {w W1 W2 : World} {r g : Nat} {Ar : Option Addr} {cr : Nat} {b : List Int} {at' : Nat} {e' : Int} (hr : RdIs w.heap.size (fun k => k < g) W1 r Ar cr b at' e') (hb : Below w.heap.size w W1) (hx : RfX w W2 g (b.drop at') e') (hg : W1.grownBy W2 (some g)) (hrg : r < g) :
    ∃ A2 c2, Both w W2 r g Ar cr b at' e' A2 c2 := by
  obtain ⟨A2, c2, h⟩ := hx
  exact ⟨A2, c2, hr.other hg (fun q => by simp at q; omega) (fun k hk q => by simp at q; omega), h, below_g hb hg hb.size h.2.1, hrg⟩
theorem wrap_bd (m : Int) : 0 ≤ IntKind.u64.wrap m ∧ IntKind.u64.wrap m < 18446744073709551616 := by
  simp only [IntKind.wrap, IntKind.signed, IntKind.bits]
  simp
  omega
theorem same5_l (l : List (List Int)) (h1 : l.length ≤ 5000) (h2 : ∀ t ∈ l, t.length ≤ 5000) (d : Nat) : ∀ (k i : Nat), i + d = l.length → d + 5010 < k → PWireReads.juratref04_Same.l0 k l l (i : Int) = some true := by
  induction d with
  | zero =>
    intro k i hi hk
    obtain ⟨k, rfl⟩ : ∃ m, k = m + 1 := ⟨k - 1, by omega⟩
    rw [PWireReads.juratref04_Same.l0, if_neg (by omega)]
  | succ d ih =>
    intro k i hi hk
    obtain ⟨k, rfl⟩ : ∃ m, k = m + 1 := ⟨k - 1, by omega⟩
    have hil : i < l.length := by omega
    have ht := h2 _ (List.getElem_mem hil)
    have hs : PWireReads.juratref01_Same.f k (PWireReads.rd_L1 l (i : Int)) (PWireReads.rd_L1 l (i : Int)) = some true := by
      have : PWireReads.rd_L1 l (i : Int) = l[i] := rd_L1_at l i hil
      rw [this]
      exact same_self' k _ (by omega) (by omega)
    rw [PWireReads.juratref04_Same.l0, if_pos (by omega), if_pos (by omega), if_pos (by omega), hs]
    simp only [Option.bind_some, if_true]
    rw [w_in (by omega) (by omega)]
    have := ih k (i + 1) (by omega) (by omega)
    rw [show ((i + 1 : Nat) : Int) = (i : Int) + 1 by omega] at this
    exact this
theorem same5 (l : List (List Int)) (h1 : l.length ≤ 5000) (h2 : ∀ t ∈ l, t.length ≤ 5000) : PWireReads.juratref04_Same.f 12000 l l = some true := by
  unfold PWireReads.juratref04_Same.f
  rw [if_pos rfl]
  exact same5_l l h1 h2 l.length 12000 0 (by omega) (by omega)
theorem same5_t (A0 : Option Addr) (c0 n0 : Nat) (A1 : Option Addr) (c1 n1 : Nat) (l : List (List Int)) (w : World) (h1 : l.length ≤ 5000) (h2 : ∀ t ∈ l, t.length ≤ 5000) (hn0 : n0 = l.length) (hn1 : n1 = l.length) (h0 : Kd.C kT w A0 l.length l) (hc0 : l.length ≤ c0) (h3 : Kd.C kT w A1 l.length l) (hc1 : l.length ≤ c1) :
    Calls Try.prog 23 #[.slice A0 n0 c0, .slice A1 n1 c1] w fun e w' => e = .returned (.bool true) ∧ Below w.heap.size w w' := by
  subst hn0
  subst hn1
  refine (PWireReads.juratref04_Same.calls 12000 A0 c0 l A1 c1 l true w h0 hc0 h3 hc1 (same5 l h1 h2)).mono ?_
  rintro e w' ⟨rfl, hq⟩
  exact ⟨rfl, below_q (Below.refl _ _) hq.out⟩
theorem textsD_len (f : Nat) : ∀ (n each : Int) (d : List Int) (acc : List (List Int)) (c : Nat), Byt d → acc.length + d.length ≤ 5000 → (∀ t ∈ acc, t.length ≤ 5000) → (textsD f n each d acc c).1.length ≤ 5000 ∧ ∀ t ∈ (textsD f n each d acc c).1, t.length ≤ 5000 := by
  induction f with
  | zero => intro n each d acc c hb hl ha; simp [textsD]
  | succ f ih =>
    intro n each d acc c hb hl ha
    rw [textsD]
    split
    · exact ⟨by show acc.length ≤ 5000; omega, ha⟩
    · split
      · simp
      · rename_i q
        obtain ⟨b1, b2, b3, b4⟩ := textD_bd d each hb
        have q' : (textD d each).2.2 = 0 := by simpa using q
        have := (b2 q').1
        refine ih _ _ _ _ _ (byt_drop hb _) (by rw [List.length_append, List.length_drop]; simp; omega) (fun t ht => ?_)
        rcases List.mem_append.1 ht with ht | ht
        · exact ha t ht
        · rw [List.mem_singleton.1 ht]; omega
theorem listE_len (d : List Int) (most each e : Int) (hb : Byt d) (hl : d.length ≤ 5000) : (listE d most each e).1.length ≤ 5000 ∧ ∀ t ∈ (listE d most each e).1, t.length ≤ 5000 := by
  unfold listE
  split
  · unfold listD
    split
    · simp
    · exact textsD_len _ _ _ _ _ _ (byt_drop hb _) (by rw [List.length_drop]; simp; omega) (by simp)
  · simp
theorem textE_len (d : List Int) (most e : Int) (hb : Byt d) (hl : d.length ≤ 5000) : (textE d most e).1.length ≤ 1000000 := by
  unfold textE
  split
  · have := textD_len d most hb; omega
  · simp
set_option maxHeartbeats 4000000 in
set_option maxRecDepth 100000 in
theorem reads_walk (A0 : Option Addr) (c0 : Nat) (b : List Int) (A1 : Option Addr) (c1 : Nat) (as_ : List Int) (A2 : Option Addr) (c2 : Nat) (ms : List Int) (w : World) (hC0 : Kd.C (Kd.int .u8) w A0 b.length b) (hc0 : b.length ≤ c0) (hby : Byt b) (hC1 : Kd.C (Kd.int .i64) w A1 as_.length as_) (hc1 : as_.length ≤ c1) (hC2 : Kd.C (Kd.int .i64) w A2 ms.length ms) (hc2 : ms.length ≤ c2) (hms : ∀ y ∈ ms, -9223372036854775808 ≤ y ∧ y ≤ 9223372036854775807) :
    Calls Try.prog 8 #[.slice A0 b.length c0, .slice A1 as_.length c1, .slice A2 ms.length c2] w fun e w' => e = .returned (.bool true) ∧ Below w.heap.size w w' := by
  have HC0 := Lib.hid hC0
  have HC1 := Lib.hid hC1
  have HC2 := Lib.hid hC2
  have HBY := Lib.hid hby
  have HMS := Lib.hid hms
  have HB := Lib.hid (Below.refl w.heap.size w)
  clear hC0 hC1 hC2 hby hms
  by_cases q1 : 2000 < b.length
  · have q1' : (2000 : Int) < b.length := by omega
    go_enter Try.func8, Try.ntmps8
    go_wp2_with (first | ((with_reducible go_at_call 11); go_must (refine (awake_ok _).mono ?_; rintro e w' ⟨rfl, hb⟩; have hb_ := below_step HB.out hb; clear HB; have HB := Lib.hid hb_; clear hb_ hb)))
    go_ret
    exact ⟨rfl, HB.out⟩
  have q1' : (b.length : Int) ≤ 2000 := by omega
  by_cases q2 : 40 < as_.length
  · have q2' : (40 : Int) < as_.length := by omega
    go_enter Try.func8, Try.ntmps8
    go_wp2_with (first | ((with_reducible go_at_call 11); go_must (refine (awake_ok _).mono ?_; rintro e w' ⟨rfl, hb⟩; have hb_ := below_step HB.out hb; clear HB; have HB := Lib.hid hb_; clear hb_ hb)))
    go_ret
    exact ⟨rfl, HB.out⟩
  have q2' : (as_.length : Int) ≤ 40 := by omega
  by_cases q3 : ms.length < as_.length
  · have q3' : (ms.length : Int) < as_.length := by omega
    go_enter Try.func8, Try.ntmps8
    go_wp2_with (first | ((with_reducible go_at_call 11); go_must (refine (awake_ok _).mono ?_; rintro e w' ⟨rfl, hb⟩; have hb_ := below_step HB.out hb; clear HB; have HB := Lib.hid hb_; clear hb_ hb)))
    go_ret
    exact ⟨rfl, HB.out⟩
  have q3' : (as_.length : Int) ≤ ms.length := by omega
  have hl9 : b.length ≤ 1000000 := by omega
  go_enter Try.func8, Try.ntmps8
  go_upto_region 6 with (first | ((with_reducible go_at_call 14); go_must (refine (own_t A0 c0 b _ hl9 HC0.out hc0).mono ?_; rintro e w' ⟨A6, c6, rfl, hc6, h6, hb⟩; have hb_ := below_step HB.out hb; clear HB; have HB := Lib.hid hb_; clear hb_ hb; have H6 := Lib.hid h6; clear h6)) | ((with_reducible go_at_call 21); go_must (refine (read_b w A6 c6 b _ HB.out H6.out hc6 hl9).mono ?_; rintro e W9 ⟨r, Ar, cr, rfl, hr, hb⟩; clear H6; have HR := Lib.hid hr; have hb_ := below_step HB.out hb; clear HB; have HB := Lib.hid hb_; clear hb_ hb; clear hr)))
  obtain ⟨g, hg⟩ : ∃ g, g = W9.heap.size := ⟨_, rfl⟩
  rw [← hg]
  have hrl := HR.out.lt
  have hbo : Both w (W9.alloc (.cells #[.slice A0 b.length c0, .int .i64 0] 48)) r g Ar cr b 0 0 A0 c0 := by
    have hb := below_alloc (Below.refl W9.heap.size W9) (.cells #[.slice A0 b.length c0, .int .i64 0] 48)
    have hbb := below_step HB.out hb
    exact ⟨RdIs.below (show RdIs w.heap.size (fun k => k < g) W9 r Ar cr b 0 0 from ⟨HR.out.1, HR.out.2.1, HR.out.2.2.1, Kd.R_mono (Kd.R_bound HR.out.2.2.2) (fun k hk => by have := hk.2.2.1; omega)⟩) hb, ⟨by rw [hg]; exact blk_new W9 _, Nat.le_trans HB.out.size (Nat.le_of_eq hg.symm), hc0, HC0.out, hbb⟩, hbb, by omega⟩
  refine world_gen (P := fun w5 => Both w w5 r g Ar cr b 0 0 A0 c0) hbo (fun w5 h5 => ?_)
  have HBO := Lib.hid h5
  clear hbo h5 HR HB hrl hg
  go_loopw [9, 10] (fun u9 u10 wr => ∃ (i at_ : Nat) (e : Int) (A' : Option Addr) (c' : Nat) (tv : Value), u9 = .int .i64 i ∧ i ≤ as_.length ∧ u10 = tv ∧ Hid (Both w wr r g Ar cr b at_ e A' c')) (fun u9 _ _ => as_.length - (intOf u9).toNat)
  case atStart => exact ⟨0, 0, 0, A0, c0, _, rfl, Nat.zero_le _, rfl, HBO⟩
  clear HBO
  obtain ⟨i, at_, e, A', c', tv, rfl, hi, rfl, HBO⟩ := hrel
  by_cases hlt : i < as_.length
  · have hlt' : (i : Int) < as_.length := by omega
    have hlm : (i : Int) < ms.length := by omega
    obtain ⟨q, hq⟩ : ∃ q, as_[i]? = some q := ⟨_, List.getElem?_eq_getElem hlt⟩
    obtain ⟨m, hm⟩ : ∃ m, ms[i]? = some m := ⟨_, List.getElem?_eq_getElem (by omega)⟩
    obtain ⟨b1, off1, rfl, e1⟩ := int_at HC1.out hq
    obtain ⟨b2, off2, rfl, e2⟩ := int_at HC2.out hm
    have E1 := Lib.hid e1
    have E2 := Lib.hid e2
    have x1 := cell_below HBO.out.2.2.1 e1
    have hmb := HMS.out m (List.mem_of_getElem? hm)
    have hmb1 := hmb.1
    have hmb2 := hmb.2
    have hdb : Hid (Byt (b.drop at_)) := Lib.hid (byt_drop HBY.out at_)
    have hdl : (b.drop at_).length ≤ 1000000000 := by rw [List.length_drop]; omega
    have hbl : b.length ≤ 1000000000 := by omega
    clear hq hm e1 e2
    by_cases s0 : q = 0
    · subst s0
      obtain ⟨⟨v, k, e'⟩, hx⟩ : ∃ x, numE (b.drop at_) (IntKind.u64.wrap m) e = x := ⟨_, rfl⟩
      have HX := Lib.hid hx
      have HW := Lib.hid (wrap_bd m)
      clear hx
      go_upto_region 12 with (fail)
      have HBD : Hid (Both w (World.drew wr) r g Ar cr b at_ e A' c') := Lib.hid ⟨HBO.out.1.drewN 1, HBO.out.2.1.drewN 1, below_drew1 HBO.out.2.2.1, HBO.out.2.2.2⟩
      have HSC := Lib.hid (cell_below HBD.out.2.2.1 E2.out)
      clear HBO
      have HBO := HBD
      clear HBD x1
      go_region_held3 (fun w2 => w2.cell? ⟨b2, off2 + i, none⟩ = some (.int .i64 m)) (first | with_reducible exact HSC.out) (first | ((with_reducible go_at_call 22); go_must (refine (num_any w.heap.size _ r Ar cr b at_ e _ (IntKind.u64.wrap m) HBO.out.1 hbl HBY.out HW.out.1 HW.out.2).mono ?_; rw [HX.out]; rintro y w' ⟨rfl, hr, hg⟩; obtain ⟨hf, hb⟩ := both_p HBO.out hr hg; have hrg := HBO.out.2.2.2; clear HSC; have HSC := Lib.hid (cell_below hb E2.out); clear HBO; have HP := Lib.hid hr; have HF := Lib.hid hf; have HB := Lib.hid hb; clear hr hg hf hb)) | ((with_reducible go_at_call 29); go_must (refine (fnum_any w g A' c' (b.drop at_) e _ (IntKind.u64.wrap m) HF.out hdl hdb.out HW.out.1 HW.out.2).mono ?_; rw [HX.out]; rintro y W7 ⟨rfl, hx, hg⟩; rw [show (b.drop at_).drop (Prod.mk v (Prod.mk k e')).2.1 = b.drop (at_ + k) from List.drop_drop] at hx; obtain ⟨A3, c3, hbo⟩ := both_f HP.out HB.out hx hg hrg; clear HSC; have HSC := Lib.hid (cell_below hbo.2.2.1 E2.out); clear HP HF HB; have HBO := Lib.hid hbo; clear hx hg hbo)))
      all_goals
        go_upto_region 21 with (fail)
        obtain ⟨a9, ha9⟩ : ∃ a, at_ + k = a := ⟨_, rfl⟩
        obtain ⟨n9, hn9⟩ : ∃ n, (b.drop a9).length = n := ⟨_, rfl⟩
        have hbo2 : Both w W7 r g Ar cr b a9 e' A3 c3 := by rw [← ha9]; exact HBO.out
        have hat9 : a9 ≤ b.length := hbo2.1.2.2.1
        have hn9' : (b.length : Int) - (a9 : Int) = n9 := by rw [← hn9, List.length_drop]; omega
        have HN9 := Lib.hid hn9
        clear HBO hn9 ha9
        have HBO : Hid (Both w (World.drew W7) r g Ar cr b a9 e' A3 c3) := Lib.hid ⟨hbo2.1.drewN 1, hbo2.2.1.drewN 1, below_drew1 hbo2.2.2.1, hbo2.2.2.2⟩
        have hc9 : (World.drew W7).cell? ⟨g, 0, none⟩ = some (.slice A3 n9 c3) := by have := HBO.out.2.1.c0; rw [HN9.out] at this; exact this
        have HSC := Lib.hid (show (World.drew W7).cell? ⟨g, 1, none⟩ = some (.int .i64 e') ∧ (World.drew W7).cell? ⟨g, 0, none⟩ = some (.slice A3 n9 c3) from ⟨HBO.out.2.1.c1, hc9⟩)
        clear hbo2 hc9
        go_region_held3 (fun w2 => w2.cell? ⟨g, 1, none⟩ = some (.int .i64 e') ∧ w2.cell? ⟨g, 0, none⟩ = some (.slice A3 n9 c3)) (first | with_reducible exact HSC.out) (first | ((with_reducible go_at_call 26); go_must (refine (err_is r e' _ HBO.out.1.c2).mono ?_; rintro y w' ⟨rfl, rfl⟩)) | ((with_reducible go_at_call 27); go_must (refine (left_is r Ar b.length cr a9 _ HBO.out.1.c0 HBO.out.1.c1 hat9 hbl).mono ?_; rintro y w2 ⟨rfl, hq⟩; have hbo_ : Both w w2 r g Ar cr b a9 e' A3 c3 := (by obtain ⟨mq, rfl⟩ := hq; exact ⟨HBO.out.1.drewN mq, HBO.out.2.1.drewN mq, pw_below_drewN HBO.out.2.2.1 mq, HBO.out.2.2.2⟩); have hc9 : w2.cell? ⟨g, 0, none⟩ = some (.slice A3 n9 c3) := (by have := hbo_.2.1.c0; rw [HN9.out] at this; exact this); clear HBO HSC; have HBO := Lib.hid hbo_; have HSC := Lib.hid (show w2.cell? ⟨g, 1, none⟩ = some (.int .i64 e') ∧ w2.cell? ⟨g, 0, none⟩ = some (.slice A3 n9 c3) from ⟨HBO.out.2.1.c1, hc9⟩); clear hbo_ hc9 hq)))
        all_goals
          go_wp2
          exact ⟨⟨i + 1, a9, e', A3, c3, _, by go_num, by omega, rfl, HBO⟩, by simp [intOf]; omega⟩
    have s0' : (q == 0) = false := by simpa using s0
    by_cases s1 : q = 1
    · subst s1
      obtain ⟨⟨v, k, e'⟩, hx⟩ : ∃ x, textE (b.drop at_) m e = x := ⟨_, rfl⟩
      have HX := Lib.hid hx
      have hvl := textE_len (b.drop at_) m e hdb.out (by rw [List.length_drop]; omega)
      rw [hx] at hvl
      have hvl' : v.length ≤ 1000000 := hvl
      clear hx hvl
      go_upto_region 14 with (fail)
      have HBD : Hid (Both w (World.drew wr) r g Ar cr b at_ e A' c') := Lib.hid ⟨HBO.out.1.drewN 1, HBO.out.2.1.drewN 1, below_drew1 HBO.out.2.2.1, HBO.out.2.2.2⟩
      have HSC := Lib.hid (cell_below HBD.out.2.2.1 E2.out)
      clear HBO
      have HBO := HBD
      clear HBD x1
      go_region_held3 (fun w2 => w2.cell? ⟨b2, off2 + i, none⟩ = some (.int .i64 m)) (first | with_reducible exact HSC.out) (first | ((with_reducible go_at_call 25); go_must (refine (text_any w.heap.size _ r Ar cr b at_ e _ m HBO.out.1 hbl HBY.out hmb2).mono ?_; rw [HX.out]; rintro y w' ⟨vT, rfl, ht, hr, hg⟩; obtain ⟨hf, hb⟩ := both_p HBO.out hr hg; have hrg := HBO.out.2.2.2; obtain ⟨AT, cT, rfl⟩ := Kd.R_slice ht; have HT := Lib.hid ht; have hgl := HBO.out.2.1.lt; clear ht; clear HSC; have HSC := Lib.hid (cell_below hb E2.out); clear HBO; have HP := Lib.hid hr; have HF := Lib.hid hf; have HB := Lib.hid hb; clear hr hg hf hb)) | ((with_reducible go_at_call 30); go_must (refine (ftext_any w g A' c' (b.drop at_) e _ m HF.out hdl hdb.out hmb).mono ?_; rw [HX.out]; rintro y W7 ⟨vF, rfl, ht, hx, hg⟩; rw [show (b.drop at_).drop (Prod.mk v (Prod.mk k e')).2.1 = b.drop (at_ + k) from List.drop_drop] at hx; obtain ⟨A3, c3, hbo⟩ := both_f HP.out HB.out hx hg hrg; obtain ⟨AF, cF, rfl⟩ := Kd.R_slice ht; have HTF := Lib.hid (Kd.R_reads' ht); have HTT := Lib.hid (Kd.R_reads' (Kd.R_grown (Kd.R_bound HT.out) hg (fun k hk e => by have := hk.2.1; simp at e; omega))); clear HT ht; clear HSC; have HSC := Lib.hid (cell_below hbo.2.2.1 E2.out); clear HP HF HB; have HBO := Lib.hid hbo; clear hx hg hbo)) | ((with_reducible go_at_call 12); go_must (refine (same_eq AT cT _ AF cF _ v _ hvl' rfl rfl HTT.out.2.2 HTT.out.2.1 HTF.out.2.2 HTF.out.2.1).mono ?_; rintro y w2 ⟨rfl, hb⟩; clear HTT HTF; have hbo_ : Both w w2 r g Ar cr b (at_ + k) e' A3 c3 := ⟨HBO.out.1.below hb, HBO.out.2.1.below hb, below_step HBO.out.2.2.1 hb, HBO.out.2.2.2⟩; clear HBO; have HBO := Lib.hid hbo_; clear hbo_; clear HSC; have HSC := Lib.hid (cell_below HBO.out.2.2.1 E2.out))))
      all_goals
        go_upto_region 21 with (fail)
        obtain ⟨a9, ha9⟩ : ∃ a, at_ + k = a := ⟨_, rfl⟩
        obtain ⟨n9, hn9⟩ : ∃ n, (b.drop a9).length = n := ⟨_, rfl⟩
        have hbo2 : Both w w2 r g Ar cr b a9 e' A3 c3 := by rw [← ha9]; exact HBO.out
        have hat9 : a9 ≤ b.length := hbo2.1.2.2.1
        have hn9' : (b.length : Int) - (a9 : Int) = n9 := by rw [← hn9, List.length_drop]; omega
        have HN9 := Lib.hid hn9
        clear HBO hn9 ha9
        have HBO : Hid (Both w (World.drew w2) r g Ar cr b a9 e' A3 c3) := Lib.hid ⟨hbo2.1.drewN 1, hbo2.2.1.drewN 1, below_drew1 hbo2.2.2.1, hbo2.2.2.2⟩
        have hc9 : (World.drew w2).cell? ⟨g, 0, none⟩ = some (.slice A3 n9 c3) := by have := HBO.out.2.1.c0; rw [HN9.out] at this; exact this
        have HSC := Lib.hid (show (World.drew w2).cell? ⟨g, 1, none⟩ = some (.int .i64 e') ∧ (World.drew w2).cell? ⟨g, 0, none⟩ = some (.slice A3 n9 c3) from ⟨HBO.out.2.1.c1, hc9⟩)
        clear hbo2 hc9
        go_region_held3 (fun w2 => w2.cell? ⟨g, 1, none⟩ = some (.int .i64 e') ∧ w2.cell? ⟨g, 0, none⟩ = some (.slice A3 n9 c3)) (first | with_reducible exact HSC.out) (first | ((with_reducible go_at_call 26); go_must (refine (err_is r e' _ HBO.out.1.c2).mono ?_; rintro y w' ⟨rfl, rfl⟩)) | ((with_reducible go_at_call 27); go_must (refine (left_is r Ar b.length cr a9 _ HBO.out.1.c0 HBO.out.1.c1 hat9 hbl).mono ?_; rintro y w2 ⟨rfl, hq⟩; have hbo_ : Both w w2 r g Ar cr b a9 e' A3 c3 := (by obtain ⟨mq, rfl⟩ := hq; exact ⟨HBO.out.1.drewN mq, HBO.out.2.1.drewN mq, pw_below_drewN HBO.out.2.2.1 mq, HBO.out.2.2.2⟩); have hc9 : w2.cell? ⟨g, 0, none⟩ = some (.slice A3 n9 c3) := (by have := hbo_.2.1.c0; rw [HN9.out] at this; exact this); clear HBO HSC; have HBO := Lib.hid hbo_; have HSC := Lib.hid (show w2.cell? ⟨g, 1, none⟩ = some (.int .i64 e') ∧ w2.cell? ⟨g, 0, none⟩ = some (.slice A3 n9 c3) from ⟨HBO.out.2.1.c1, hc9⟩); clear hbo_ hc9 hq)))
        all_goals
          go_wp2
          exact ⟨⟨i + 1, a9, e', A3, c3, _, by go_num, by omega, rfl, HBO⟩, by simp [intOf]; omega⟩
    have s1' : (q == 1) = false := by simpa using s1
    by_cases s2 : q = 2
    · subst s2
      obtain ⟨⟨v, k, e'⟩, hx⟩ : ∃ x, listE (b.drop at_) m 50 e = x := ⟨_, rfl⟩
      have HX := Lib.hid hx
      have hvl := listE_len (b.drop at_) m 50 e hdb.out (by rw [List.length_drop]; omega)
      rw [hx] at hvl
      have hvl' : v.length ≤ 5000 := hvl.1
      have HVL : Hid (∀ t ∈ v, t.length ≤ 5000) := Lib.hid hvl.2
      clear hx hvl
      go_upto_region 16 with (fail)
      have HBD : Hid (Both w (World.drew wr) r g Ar cr b at_ e A' c') := Lib.hid ⟨HBO.out.1.drewN 1, HBO.out.2.1.drewN 1, below_drew1 HBO.out.2.2.1, HBO.out.2.2.2⟩
      have HSC := Lib.hid (cell_below HBD.out.2.2.1 E2.out)
      clear HBO
      have HBO := HBD
      clear HBD x1
      go_region_held3 (fun w2 => w2.cell? ⟨b2, off2 + i, none⟩ = some (.int .i64 m)) (first | with_reducible exact HSC.out) (first | ((with_reducible go_at_call 24); go_must (refine (list_any w.heap.size _ r Ar cr b at_ e _ m 50 HBO.out.1 hbl HBY.out hmb2 (by omega)).mono ?_; rw [HX.out]; rintro y w' ⟨vT, rfl, ht, hr, hg⟩; obtain ⟨hf, hb⟩ := both_p HBO.out hr hg; have hrg := HBO.out.2.2.2; obtain ⟨AT, cT, rfl⟩ := Kd.S_slice ht; have HT := Lib.hid ht; have hgl := HBO.out.2.1.lt; clear ht; clear HSC; have HSC := Lib.hid (cell_below hb E2.out); clear HBO; have HP := Lib.hid hr; have HF := Lib.hid hf; have HB := Lib.hid hb; clear hr hg hf hb)) | ((with_reducible go_at_call 31); go_must (refine (flist_any w g A' c' (b.drop at_) e _ m 50 HF.out hdl hdb.out hmb ⟨by omega, by omega⟩).mono ?_; rw [HX.out]; rintro y W7 ⟨vF, rfl, ht, hx, hg⟩; rw [show (b.drop at_).drop (Prod.mk v (Prod.mk k e')).2.1 = b.drop (at_ + k) from List.drop_drop] at hx; obtain ⟨A3, c3, hbo⟩ := both_f HP.out HB.out hx hg hrg; obtain ⟨AF, cF, rfl⟩ := Kd.S_slice ht; have HTF := Lib.hid (Kd.S_reads' ht); have HTT := Lib.hid (Kd.S_reads' (Kd.S_grown (Kd.S_bound HT.out) hg (fun k hk e => by have := hk.2.1; simp at e; omega))); clear HT ht; clear HSC; have HSC := Lib.hid (cell_below hbo.2.2.1 E2.out); clear HP HF HB; have HBO := Lib.hid hbo; clear hx hg hbo)) | ((with_reducible go_at_call 23); go_must (refine (same5_t AT cT _ AF cF _ v _ hvl' HVL.out rfl rfl HTT.out.2.2 HTT.out.2.1 HTF.out.2.2 HTF.out.2.1).mono ?_; rintro y w2 ⟨rfl, hb⟩; clear HTT HTF; have hbo_ : Both w w2 r g Ar cr b (at_ + k) e' A3 c3 := ⟨HBO.out.1.below hb, HBO.out.2.1.below hb, below_step HBO.out.2.2.1 hb, HBO.out.2.2.2⟩; clear HBO; have HBO := Lib.hid hbo_; clear hbo_; clear HSC; have HSC := Lib.hid (cell_below HBO.out.2.2.1 E2.out))))
      all_goals
        go_upto_region 21 with (fail)
        obtain ⟨a9, ha9⟩ : ∃ a, at_ + k = a := ⟨_, rfl⟩
        obtain ⟨n9, hn9⟩ : ∃ n, (b.drop a9).length = n := ⟨_, rfl⟩
        have hbo2 : Both w w2 r g Ar cr b a9 e' A3 c3 := by rw [← ha9]; exact HBO.out
        have hat9 : a9 ≤ b.length := hbo2.1.2.2.1
        have hn9' : (b.length : Int) - (a9 : Int) = n9 := by rw [← hn9, List.length_drop]; omega
        have HN9 := Lib.hid hn9
        clear HBO hn9 ha9
        have HBO : Hid (Both w (World.drew w2) r g Ar cr b a9 e' A3 c3) := Lib.hid ⟨hbo2.1.drewN 1, hbo2.2.1.drewN 1, below_drew1 hbo2.2.2.1, hbo2.2.2.2⟩
        have hc9 : (World.drew w2).cell? ⟨g, 0, none⟩ = some (.slice A3 n9 c3) := by have := HBO.out.2.1.c0; rw [HN9.out] at this; exact this
        have HSC := Lib.hid (show (World.drew w2).cell? ⟨g, 1, none⟩ = some (.int .i64 e') ∧ (World.drew w2).cell? ⟨g, 0, none⟩ = some (.slice A3 n9 c3) from ⟨HBO.out.2.1.c1, hc9⟩)
        clear hbo2 hc9
        go_region_held3 (fun w2 => w2.cell? ⟨g, 1, none⟩ = some (.int .i64 e') ∧ w2.cell? ⟨g, 0, none⟩ = some (.slice A3 n9 c3)) (first | with_reducible exact HSC.out) (first | ((with_reducible go_at_call 26); go_must (refine (err_is r e' _ HBO.out.1.c2).mono ?_; rintro y w' ⟨rfl, rfl⟩)) | ((with_reducible go_at_call 27); go_must (refine (left_is r Ar b.length cr a9 _ HBO.out.1.c0 HBO.out.1.c1 hat9 hbl).mono ?_; rintro y w2 ⟨rfl, hq⟩; have hbo_ : Both w w2 r g Ar cr b a9 e' A3 c3 := (by obtain ⟨mq, rfl⟩ := hq; exact ⟨HBO.out.1.drewN mq, HBO.out.2.1.drewN mq, pw_below_drewN HBO.out.2.2.1 mq, HBO.out.2.2.2⟩); have hc9 : w2.cell? ⟨g, 0, none⟩ = some (.slice A3 n9 c3) := (by have := hbo_.2.1.c0; rw [HN9.out] at this; exact this); clear HBO HSC; have HBO := Lib.hid hbo_; have HSC := Lib.hid (show w2.cell? ⟨g, 1, none⟩ = some (.int .i64 e') ∧ w2.cell? ⟨g, 0, none⟩ = some (.slice A3 n9 c3) from ⟨HBO.out.2.1.c1, hc9⟩); clear hbo_ hc9 hq)))
        all_goals
          go_wp2
          exact ⟨⟨i + 1, a9, e', A3, c3, _, by go_num, by omega, rfl, HBO⟩, by simp [intOf]; omega⟩
    have s2' : (q == 2) = false := by simpa using s2
    by_cases s3 : q = 3
    · subst s3
      obtain ⟨⟨v, k, e'⟩, hx⟩ : ∃ x, byteE (b.drop at_) e = x := ⟨_, rfl⟩
      have HX := Lib.hid hx
      clear hx
      go_upto_region 21 with (first | ((with_reducible go_at_call 32); go_must (refine (byte_any w.heap.size _ r Ar cr b at_ e _ HBO.out.1 hbl).mono ?_; rw [HX.out]; rintro y w' ⟨rfl, hr, hg⟩; obtain ⟨hf, hb⟩ := both_p HBO.out hr hg; have hrg := HBO.out.2.2.2; clear HBO; have HP := Lib.hid hr; have HF := Lib.hid hf; have HB := Lib.hid hb; clear hr hg hf hb)) | ((with_reducible go_at_call 33); go_must (refine (fbyte_any w g A' c' (b.drop at_) e _ HF.out hdl).mono ?_; rw [HX.out]; rintro y W7 ⟨rfl, hx, hg⟩; rw [show (b.drop at_).drop (Prod.mk v (Prod.mk k e')).2.1 = b.drop (at_ + k) from List.drop_drop] at hx; obtain ⟨A3, c3, hbo⟩ := both_f HP.out HB.out hx hg hrg; clear HP HF HB; have HBO := Lib.hid hbo; clear hx hg hbo)))
      obtain ⟨a9, ha9⟩ : ∃ a, at_ + k = a := ⟨_, rfl⟩
      obtain ⟨n9, hn9⟩ : ∃ n, (b.drop a9).length = n := ⟨_, rfl⟩
      have hbo2 : Both w W7 r g Ar cr b a9 e' A3 c3 := by rw [← ha9]; exact HBO.out
      have hat9 : a9 ≤ b.length := hbo2.1.2.2.1
      have hn9' : (b.length : Int) - (a9 : Int) = n9 := by rw [← hn9, List.length_drop]; omega
      have HN9 := Lib.hid hn9
      clear HBO hn9 ha9
      have HBO : Hid (Both w (World.drew W7) r g Ar cr b a9 e' A3 c3) := Lib.hid ⟨hbo2.1.drewN 1, hbo2.2.1.drewN 1, below_drew1 hbo2.2.2.1, hbo2.2.2.2⟩
      have hc9 : (World.drew W7).cell? ⟨g, 0, none⟩ = some (.slice A3 n9 c3) := by have := HBO.out.2.1.c0; rw [HN9.out] at this; exact this
      have HSC := Lib.hid (show (World.drew W7).cell? ⟨g, 1, none⟩ = some (.int .i64 e') ∧ (World.drew W7).cell? ⟨g, 0, none⟩ = some (.slice A3 n9 c3) from ⟨HBO.out.2.1.c1, hc9⟩)
      clear hbo2 hc9
      go_region_held3 (fun w2 => w2.cell? ⟨g, 1, none⟩ = some (.int .i64 e') ∧ w2.cell? ⟨g, 0, none⟩ = some (.slice A3 n9 c3)) (first | with_reducible exact HSC.out) (first | ((with_reducible go_at_call 26); go_must (refine (err_is r e' _ HBO.out.1.c2).mono ?_; rintro y w' ⟨rfl, rfl⟩)) | ((with_reducible go_at_call 27); go_must (refine (left_is r Ar b.length cr a9 _ HBO.out.1.c0 HBO.out.1.c1 hat9 hbl).mono ?_; rintro y w2 ⟨rfl, hq⟩; have hbo_ : Both w w2 r g Ar cr b a9 e' A3 c3 := (by obtain ⟨mq, rfl⟩ := hq; exact ⟨HBO.out.1.drewN mq, HBO.out.2.1.drewN mq, pw_below_drewN HBO.out.2.2.1 mq, HBO.out.2.2.2⟩); have hc9 : w2.cell? ⟨g, 0, none⟩ = some (.slice A3 n9 c3) := (by have := hbo_.2.1.c0; rw [HN9.out] at this; exact this); clear HBO HSC; have HBO := Lib.hid hbo_; have HSC := Lib.hid (show w2.cell? ⟨g, 1, none⟩ = some (.int .i64 e') ∧ w2.cell? ⟨g, 0, none⟩ = some (.slice A3 n9 c3) from ⟨HBO.out.2.1.c1, hc9⟩); clear hbo_ hc9 hq)))
      all_goals
        go_wp2
        exact ⟨⟨i + 1, a9, e', A3, c3, _, by go_num, by omega, rfl, HBO⟩, by simp [intOf]; omega⟩
    have s3' : (q == 3) = false := by simpa using s3
    by_cases s4 : q = 4
    · subst s4
      obtain ⟨⟨v, k, e'⟩, hx⟩ : ∃ x, digE (b.drop at_) e = x := ⟨_, rfl⟩
      have HX := Lib.hid hx
      obtain ⟨hv1, hv2⟩ := digE_in (b.drop at_) e hdb.out
      rw [hx] at hv1 hv2
      have hdq : ∀ w : World, (binOp .eql 51 (.agg (c8 v).toArray) (.agg (c8 v).toArray)).run Try.prog w = .ok (.bool true) w := fun w => dig_eq v hv1 hv2 w
      obtain ⟨V, hV⟩ : ∃ V, (c8 v).toArray = V := ⟨_, rfl⟩
      rw [hV] at hdq
      have HV := Lib.hid hV
      clear hx hv1 hv2 hV
      go_upto_region 21 with (first | ((with_reducible go_at_call 34); go_must (refine (dig_any w.heap.size _ r Ar cr b at_ e _ HBO.out.1 hbl).mono ?_; rw [HX.out]; rintro y w' ⟨hy, hr, hg⟩; rw [show (c8 (Prod.mk v (Prod.mk k e')).1).toArray = V from HV.out] at hy; subst hy; obtain ⟨hf, hb⟩ := both_p HBO.out hr hg; have hrg := HBO.out.2.2.2; clear HBO; have HP := Lib.hid hr; have HF := Lib.hid hf; have HB := Lib.hid hb; clear hr hg hf hb)) | ((with_reducible go_at_call 35); go_must (refine (fdig_any w g A' c' (b.drop at_) e _ HF.out hdl).mono ?_; rw [HX.out]; rintro y W7 ⟨hy, hx, hg⟩; rw [show (c8 (Prod.mk v (Prod.mk k e')).1).toArray = V from HV.out] at hy; subst hy; rw [show (b.drop at_).drop (Prod.mk v (Prod.mk k e')).2.1 = b.drop (at_ + k) from List.drop_drop] at hx; obtain ⟨A3, c3, hbo⟩ := both_f HP.out HB.out hx hg hrg; clear HP HF HB; have HBO := Lib.hid hbo; clear hx hg hbo)))
      obtain ⟨a9, ha9⟩ : ∃ a, at_ + k = a := ⟨_, rfl⟩
      obtain ⟨n9, hn9⟩ : ∃ n, (b.drop a9).length = n := ⟨_, rfl⟩
      have hbo2 : Both w W7 r g Ar cr b a9 e' A3 c3 := by rw [← ha9]; exact HBO.out
      have hat9 : a9 ≤ b.length := hbo2.1.2.2.1
      have hn9' : (b.length : Int) - (a9 : Int) = n9 := by rw [← hn9, List.length_drop]; omega
      have HN9 := Lib.hid hn9
      clear HBO hn9 ha9
      have HBO : Hid (Both w (World.drew W7) r g Ar cr b a9 e' A3 c3) := Lib.hid ⟨hbo2.1.drewN 1, hbo2.2.1.drewN 1, below_drew1 hbo2.2.2.1, hbo2.2.2.2⟩
      have hc9 : (World.drew W7).cell? ⟨g, 0, none⟩ = some (.slice A3 n9 c3) := by have := HBO.out.2.1.c0; rw [HN9.out] at this; exact this
      have HSC := Lib.hid (show (World.drew W7).cell? ⟨g, 1, none⟩ = some (.int .i64 e') ∧ (World.drew W7).cell? ⟨g, 0, none⟩ = some (.slice A3 n9 c3) from ⟨HBO.out.2.1.c1, hc9⟩)
      clear hbo2 hc9
      go_region_held3 (fun w2 => w2.cell? ⟨g, 1, none⟩ = some (.int .i64 e') ∧ w2.cell? ⟨g, 0, none⟩ = some (.slice A3 n9 c3)) (first | with_reducible exact HSC.out) (first | ((with_reducible go_at_call 26); go_must (refine (err_is r e' _ HBO.out.1.c2).mono ?_; rintro y w' ⟨rfl, rfl⟩)) | ((with_reducible go_at_call 27); go_must (refine (left_is r Ar b.length cr a9 _ HBO.out.1.c0 HBO.out.1.c1 hat9 hbl).mono ?_; rintro y w2 ⟨rfl, hq⟩; have hbo_ : Both w w2 r g Ar cr b a9 e' A3 c3 := (by obtain ⟨mq, rfl⟩ := hq; exact ⟨HBO.out.1.drewN mq, HBO.out.2.1.drewN mq, pw_below_drewN HBO.out.2.2.1 mq, HBO.out.2.2.2⟩); have hc9 : w2.cell? ⟨g, 0, none⟩ = some (.slice A3 n9 c3) := (by have := hbo_.2.1.c0; rw [HN9.out] at this; exact this); clear HBO HSC; have HBO := Lib.hid hbo_; have HSC := Lib.hid (show w2.cell? ⟨g, 1, none⟩ = some (.int .i64 e') ∧ w2.cell? ⟨g, 0, none⟩ = some (.slice A3 n9 c3) from ⟨HBO.out.2.1.c1, hc9⟩); clear hbo_ hc9 hq)))
      all_goals
        go_wp2
        exact ⟨⟨i + 1, a9, e', A3, c3, _, by go_num, by omega, rfl, HBO⟩, by simp [intOf]; omega⟩
    have s4' : (q == 4) = false := by simpa using s4
    obtain ⟨e', hx⟩ : ∃ x, endD (b.drop at_) e = x := ⟨_, rfl⟩
    have HX := Lib.hid hx
    clear hx
    obtain ⟨k, hk⟩ : ∃ k, k = 0 := ⟨_, rfl⟩
    have HKZ := Lib.hid hk
    clear hk
    go_upto_region 21 with (first | ((with_reducible go_at_call 28); go_must (refine (end_read w.heap.size _ r Ar cr b at_ e _ HBO.out.1 hbl).mono ?_; rw [HX.out]; rintro y w' ⟨rfl, hr, hg⟩; obtain ⟨hf, hb⟩ := both_p HBO.out hr hg; have hrg := HBO.out.2.2.2; clear HBO; have HP := Lib.hid hr; have HF := Lib.hid hf; have HB := Lib.hid hb; clear hr hg hf hb)) | ((with_reducible go_at_call 36); go_must (refine (fend_read w g A' c' (b.drop at_) e _ HF.out hdl).mono ?_; rw [HX.out]; rintro y W7 ⟨rfl, hx, hg⟩; obtain ⟨A3, c3, hbo⟩ := both_f HP.out HB.out hx hg hrg; clear HP HF HB; have HBO : Hid (Both w W7 r g Ar cr b (at_ + k) e' A3 c3) := Lib.hid (by rw [HKZ.out]; exact hbo); clear hx hg hbo)))
    obtain ⟨a9, ha9⟩ : ∃ a, at_ + k = a := ⟨_, rfl⟩
    obtain ⟨n9, hn9⟩ : ∃ n, (b.drop a9).length = n := ⟨_, rfl⟩
    have hbo2 : Both w W7 r g Ar cr b a9 e' A3 c3 := by rw [← ha9]; exact HBO.out
    have hat9 : a9 ≤ b.length := hbo2.1.2.2.1
    have hn9' : (b.length : Int) - (a9 : Int) = n9 := by rw [← hn9, List.length_drop]; omega
    have HN9 := Lib.hid hn9
    clear HBO hn9 ha9
    have HBO : Hid (Both w (World.drew W7) r g Ar cr b a9 e' A3 c3) := Lib.hid ⟨hbo2.1.drewN 1, hbo2.2.1.drewN 1, below_drew1 hbo2.2.2.1, hbo2.2.2.2⟩
    have hc9 : (World.drew W7).cell? ⟨g, 0, none⟩ = some (.slice A3 n9 c3) := by have := HBO.out.2.1.c0; rw [HN9.out] at this; exact this
    have HSC := Lib.hid (show (World.drew W7).cell? ⟨g, 1, none⟩ = some (.int .i64 e') ∧ (World.drew W7).cell? ⟨g, 0, none⟩ = some (.slice A3 n9 c3) from ⟨HBO.out.2.1.c1, hc9⟩)
    clear hbo2 hc9
    go_region_held3 (fun w2 => w2.cell? ⟨g, 1, none⟩ = some (.int .i64 e') ∧ w2.cell? ⟨g, 0, none⟩ = some (.slice A3 n9 c3)) (first | with_reducible exact HSC.out) (first | ((with_reducible go_at_call 26); go_must (refine (err_is r e' _ HBO.out.1.c2).mono ?_; rintro y w' ⟨rfl, rfl⟩)) | ((with_reducible go_at_call 27); go_must (refine (left_is r Ar b.length cr a9 _ HBO.out.1.c0 HBO.out.1.c1 hat9 hbl).mono ?_; rintro y w2 ⟨rfl, hq⟩; have hbo_ : Both w w2 r g Ar cr b a9 e' A3 c3 := (by obtain ⟨mq, rfl⟩ := hq; exact ⟨HBO.out.1.drewN mq, HBO.out.2.1.drewN mq, pw_below_drewN HBO.out.2.2.1 mq, HBO.out.2.2.2⟩); have hc9 : w2.cell? ⟨g, 0, none⟩ = some (.slice A3 n9 c3) := (by have := hbo_.2.1.c0; rw [HN9.out] at this; exact this); clear HBO HSC; have HBO := Lib.hid hbo_; have HSC := Lib.hid (show w2.cell? ⟨g, 1, none⟩ = some (.int .i64 e') ∧ w2.cell? ⟨g, 0, none⟩ = some (.slice A3 n9 c3) from ⟨HBO.out.2.1.c1, hc9⟩); clear hbo_ hc9 hq)))
    all_goals
      go_wp2
      exact ⟨⟨i + 1, a9, e', A3, c3, _, by go_num, by omega, rfl, HBO⟩, by simp [intOf]; omega⟩
  · have hlt' : (as_.length : Int) ≤ i := by omega
    have HB : Hid (Below w.heap.size w wr) := Lib.hid HBO.out.2.2.1
    go_wp2_with (first | ((with_reducible go_at_call 11); go_must (refine (awake_ok _).mono ?_; rintro e w' ⟨rfl, hb⟩; have hb_ := below_step HB.out hb; clear HB; have HB := Lib.hid hb_; clear hb_ hb)))
    go_ret
    exact ⟨rfl, HB.out⟩
end Go.Proofs.Ytnkaalapjlmmiaa.WireReads
