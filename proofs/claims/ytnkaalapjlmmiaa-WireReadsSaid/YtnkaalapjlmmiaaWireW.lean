/- PROVED: contracts of layer 4's writers. No condition beyond what each line says. -/
import Derived.Test.YtnkaalapjlmmiaaWirePure
import Derived.Test.YtnkaalapjlmmiaaLRead
import Derived.Test.YtnkaalapjlmmiaaWApart
import Derived.WalkKit
import Derived.WalkSpells
import Derived.WalkLawsBesides
import Derived.WalkMore
import Derived.Outline
import Derived.Lib.Hide
import Derived.BigQuiet
import Derived.Deep.QuietTactic
import Derived.Deep.RegionHeld3
import Derived.Deep.RegionLaw
import Derived.Deep.LoopGhost
import Derived.Deep.DeepCutAuto
namespace Go.Proofs.Ytnkaalapjlmmiaa.WireW
open Go.RowKit Go.Proofs.Ytnkaalapjlmmiaa.PWireWrites Go.Proofs.Ytnkaalapjlmmiaa.WirePure Go.Proofs.YtnkaalapjlmmiaaW.PrintWords Go.Proofs.YtnkaalapjlmmiaaW.PrintLast Go.Proofs.YtnkaalapjlmmiaaW.PrintMore
set_option linter.unusedSimpArgs false
set_option linter.unusedVariables false
set_option maxHeartbeats 4000000 in
set_option maxRecDepth 100000 in
theorem info5 : (Try.prog.info? 5).map (fun i => (i.zero, i.size, i.bytes)) = some (some (.int .u8 0), 1, 1) := by kernel_rfl
theorem num_ok (n : Int) (w : World) (h0 : 0 ≤ n) (h1 : n < 18446744073709551616) : Calls Try.prog 16 #[.int .u64 n] w fun e w' => ∃ v, e = .returned v ∧ Kd.R (Kd.int .u8) 5 w' w.heap.size (fun _ => True) v (numB n) ∧ Below w.heap.size w w' := by
  have hw8 := wid_le n
  have hby : Hid (bits_Bytes.f 20 n (wid n : Int) = some (low n (wid n), 0)) := Lib.hid (by simpa using bytes_in 20 (by omega) n (wid n : Int) (by omega) (by omega))
  go_enter Try.func16, Try.ntmps16
  go_wp2
  go_step3
  go_wp2
  go_step3
  go_wp2
  go_loop [3] (fun u3 => ∃ m : Nat, u3 = .int .i64 m ∧ m ≤ 8 ∧ Hid (widF m n = wid n)) (fun u3 => (intOf u3).toNat)
  case atStart => exact ⟨8, rfl, Nat.le_refl _, Lib.hid rfl⟩
  obtain ⟨m, rfl, hm, HW⟩ := hrel
  rcases m with _ | m
  · have hw0 : wid n = 0 := HW.out.symm
    have hby : Hid (bits_Bytes.f 20 n 0 = some (low n (wid n), 0)) := Lib.hid (by have := hby.out; rw [hw0] at this ⊢; exact this)
    have hx : Hid ((0 : Int) = wid n) := Lib.hid (by omega)
    clear hw0
    go_wp2_with (first | ((with_reducible go_at_call 37); go_must (refine (bits_Bytes.calls 20 n _ (low n (wid n)) 0 _ hby.out).mono ?_; rintro e w' ⟨v, rfl, hr, hb⟩; obtain ⟨Av, cv, rfl⟩ := Kd.R_slice hr; have HV := Lib.hid hr; have HB := Lib.hid hb; clear hr hb)) | ((with_reducible refine gate_dst (N := 24) rfl ?_); refine Kd.R_lit (Kd.int .u8) _ 5 ?hg (N := 24) ?hd (xs := ([0] : List (Int))) (inner := [.int .u8 0]) (ok := fun _ => True) (okp := fun _ => True) ?hr ?hp (fun _ hk => hk) trivial (Below.refl _ _) (Nat.le_refl _) (by simp) ?_; (case hd => rfl); (case hg => rfl); (case hr => first | (go_simp; done) | (go_simp; rfl)); (case hp => exact (Reps.one (show Kd.M (Kd.int .u8) _ _ _ 0 [.int .u8 0] from rfl) (Reps.none _ _))); intro vL wL hl hb hg_ hn_; clear hg_ hn_; have HL := Lib.hid (Kd.R_lower hl HB.out.size); have hv_ := Kd.C_below (Kd.R_reads' HV.out).2.2 hb; have hc_ := (Kd.R_reads' HV.out).2.1; have hb_ := below_step HB.out hb; clear HV HB hl hb; have HV := Lib.hid hv_; have HB := Lib.hid hb_; clear hv_ hb_) | ((with_reducible refine gate_builtin (b := .append) (xs := #[.tmp 24, .tmp 25]) rfl ?_); at_builtin; go_must (refine Kd.R_append_rows (Kd.int .u8) (w0 := w) (w.heap.size) rfl (.tmp 24) (.tmp 25) 27 5 (.int .u8 0) 1 rfl Try.underlying27 info5 rfl (by decide) (by omega) (vL) ([0]) (low n (wid n)) _ _ _ (fun _ => True) (fun _ => False) rfl rfl (HL.out) (HV.out) (fun x cs h => h) (fun _ h => h.elim) (fun _ _ => trivial) HB.out HB.out.size ?aL ?_; (case aL => (have := wid_le n; simp [low_length]; omega)); intro vA wA ho hb hg hat; have HR := Lib.hid ho; clear HB; have HB := Lib.hid hb; clear ho hb hg hat)))
    try rw [Exit.noGoto_ret]
    go_ret
    exact ⟨_, rfl, by have := HR.out; rw [hx.out] at this; exact this, HB.out⟩
  · have e1 : ((m + 1 : Nat) : Int) - 1 = m := by omega
    have hm' : (m : Int) ≤ 7 := by omega
    by_cases hz : n / 256 ^ m = 0
    · have hsh : (n / 2 ^ (8 * m) != 0) = false := by rw [Int.pow_mul]; simpa using hz
      have hnx : Hid (widF m n = wid n) := Lib.hid (by rw [← HW.out, widF, if_neg (by simpa using hz)])
      clear hz
      go_wp2
      exact ⟨⟨m, rfl, by omega, hnx⟩, by simp [intOf]⟩
    · have hwm : Hid (wid n = m + 1) := Lib.hid (by rw [← HW.out]; unfold widF; rw [if_pos hz])
      have hsh : (n / 2 ^ (8 * m) != 0) = true := by rw [Int.pow_mul]; simpa using hz
      have hby : Hid (bits_Bytes.f 20 n ((m : Int) + 1) = some (low n (wid n), 0)) := Lib.hid (by have := hby.out; rw [hwm.out] at this ⊢; exact this)
      clear hz
      have hx : (m : Int) + 1 = wid n := by have := hwm.out; omega
      have hx' := Lib.hid hx
      clear hx
      go_wp2_with (first | ((with_reducible go_at_call 37); go_must (refine (bits_Bytes.calls 20 n _ (low n (wid n)) 0 _ hby.out).mono ?_; rintro e w' ⟨v, rfl, hr, hb⟩; obtain ⟨Av, cv, rfl⟩ := Kd.R_slice hr; have HV := Lib.hid hr; have HB := Lib.hid hb; clear hr hb)) | ((with_reducible refine gate_dst (N := 24) rfl ?_); refine Kd.R_lit (Kd.int .u8) _ 5 ?hg (N := 24) ?hd (xs := ([((m : Int) + 1)] : List (Int))) (inner := [.int .u8 ((m : Int) + 1)]) (ok := fun _ => True) (okp := fun _ => True) ?hr ?hp (fun _ hk => hk) trivial (Below.refl _ _) (Nat.le_refl _) (by simp) ?_; (case hd => rfl); (case hg => rfl); (case hr => first | (go_simp; done) | (go_simp; rfl)); (case hp => exact (Reps.one (show Kd.M (Kd.int .u8) _ _ _ ((m : Int) + 1) [.int .u8 ((m : Int) + 1)] from rfl) (Reps.none _ _))); intro vL wL hl hb hg_ hn_; clear hg_ hn_; have HL := Lib.hid (Kd.R_lower hl HB.out.size); have hv_ := Kd.C_below (Kd.R_reads' HV.out).2.2 hb; have hc_ := (Kd.R_reads' HV.out).2.1; have hb_ := below_step HB.out hb; clear HV HB hl hb; have HV := Lib.hid hv_; have HB := Lib.hid hb_; clear hv_ hb_) | ((with_reducible refine gate_builtin (b := .append) (xs := #[.tmp 24, .tmp 25]) rfl ?_); at_builtin; go_must (refine Kd.R_append_rows (Kd.int .u8) (w0 := w) (w.heap.size) rfl (.tmp 24) (.tmp 25) 27 5 (.int .u8 0) 1 rfl Try.underlying27 info5 rfl (by decide) (by omega) (vL) ([((m : Int) + 1)]) (low n (wid n)) _ _ _ (fun _ => True) (fun _ => False) rfl rfl (HL.out) (HV.out) (fun x cs h => h) (fun _ h => h.elim) (fun _ _ => trivial) HB.out HB.out.size ?aL ?_; (case aL => (have := wid_le n; simp [low_length]; omega)); intro vA wA ho hb hg hat; have HR := Lib.hid ho; clear HB; have HB := Lib.hid hb; clear ho hb hg hat)))
      try rw [Exit.noGoto_ret]
      go_ret
      exact ⟨_, rfl, by have := HR.out; rw [hx'.out] at this; exact this, HB.out⟩
set_option maxHeartbeats 4000000 in
set_option maxRecDepth 100000 in
theorem text_ok (A : Option Addr) (cap : Nat) (t : List Int) (w : World) (hC : Kd.C (Kd.int .u8) w A t.length t) (hcap : t.length ≤ cap) (ht : t.length ≤ 1000000) :
    Calls Try.prog 13 #[.slice A t.length cap] w fun e w' => ∃ v, e = .returned v ∧ Kd.R (Kd.int .u8) 5 w' w.heap.size (fun _ => True) v (textB t) ∧ Below w.heap.size w w' := by
  have HC := Lib.hid hC
  clear hC
  have hb9 := numB_le (t.length : Int)
  go_enter Try.func13, Try.ntmps13
  go_wp2_with (first | ((with_reducible go_at_call 16); go_must (refine (num_ok _ _ (by omega) (by omega)).mono ?_; rintro e w' ⟨v, rfl, hr, hb⟩; have HL := Lib.hid hr; have HB := Lib.hid hb; clear hr hb)) | ((with_reducible refine gate_builtin (b := .append) (xs := #[.tmp 6, .tmp 7]) rfl ?_); at_builtin; go_must (refine Kd.R_append_rows (Kd.int .u8) (w0 := w) (w.heap.size) rfl (.tmp 6) (.tmp 7) 27 5 (.int .u8 0) 1 rfl Try.underlying27 info5 rfl (by decide) (by omega) (v) (numB (t.length : Int)) (t) _ _ _ (fun _ => True) (fun _ => False) rfl rfl (HL.out) (Kd.C_below HC.out HB.out) (fun x cs h => h) (fun _ h => h.elim) (fun _ _ => trivial) HB.out HB.out.size ?aL ?_; (case aL => omega); intro vA wA ho hb hg hat; have HR := Lib.hid ho; clear HB; have HB := Lib.hid hb; clear ho hb hg hat)))
  go_ret
  exact ⟨_, rfl, HR.out, HB.out⟩
theorem slice_at {w : World} {A : Option Addr} {l : List (List Int)} (h : Kd.C (Kd.slice 5 (Kd.int .u8)) w A l.length l) {k : Nat} {t : List Int} (ht : l[k]? = some t) :
    ∃ b off A2 c2, A = some ⟨b, off, none⟩ ∧ w.cell? ⟨b, off + k, none⟩ = some (.slice A2 t.length c2) ∧ t.length ≤ c2 ∧ Kd.C (Kd.int .u8) w A2 t.length t := by
  have hk : k < l.length := (List.getElem?_eq_some_iff.1 ht).1
  obtain ⟨b, off, rfl, hb, hel⟩ := LRead.C_addr h (by decide) (by omega)
  obtain ⟨c, hc, hK, hcell⟩ := hel k t ht
  obtain ⟨A2, c2, rfl, l2, g2⟩ := hK
  refine ⟨b, off, A2, c2, rfl, ?_, l2, g2⟩
  have := hcell 0 _ rfl
  rw [show off + k * (Kd.slice 5 (Kd.int .u8)).sz + 0 = off + k from by show off + k * 1 + 0 = off + k; omega] at this
  exact this
theorem cell_below {w w1 : World} (h : Below w.heap.size w w1) {a : Addr} {v : Value} (hc : w.cell? a = some v) : w1.cell? a = some v := (World.cell?_of_block (h.block _ (World.block_lt_of_cell? w a hc))).trans hc
set_option maxHeartbeats 4000000 in
set_option maxRecDepth 100000 in
theorem list_ok (A : Option Addr) (cap : Nat) (l : List (List Int)) (w : World) (hC : Kd.C (Kd.slice 5 (Kd.int .u8)) w A l.length l) (hcap : l.length ≤ cap) (h1 : l.length ≤ 10000) (h2 : ∀ t ∈ l, t.length ≤ 10000) :
    Calls Try.prog 18 #[.slice A l.length cap] w fun e w' => ∃ v, e = .returned v ∧ Kd.R (Kd.int .u8) 5 w' w.heap.size (fun _ => True) v (listB l) ∧ Below w.heap.size w w' := by
  have HC := Lib.hid hC
  have H2 := Lib.hid h2
  clear hC h2
  go_enter Try.func18, Try.ntmps18
  go_upto_region 3 with (first | ((with_reducible go_at_call 16); go_must (refine (num_ok _ _ (by omega) (by omega)).mono ?_; rintro e w' ⟨v, rfl, hr, hb⟩; have HL := Lib.hid hr; have HB := Lib.hid hb; clear hr hb)))
  go_loopw [3, 12] (fun u3 u12 wr => ∃ (k : Nat) (v : Value), u12 = .int .i64 k ∧ k ≤ l.length ∧ u3 = v ∧ Hid (Kd.R (Kd.int .u8) 5 wr w.heap.size (fun _ => True) v (numB (l.length : Int) ++ textsB (l.take k))) ∧ Hid (Below w.heap.size w wr)) (fun _ u12 _ => l.length - (intOf u12).toNat)
  case atStart => exact ⟨0, _, rfl, Nat.zero_le _, rfl, Lib.hid (by have := HL.out; simpa [textsB] using this), HB⟩
  clear HL HB
  obtain ⟨k, v, rfl, hk, rfl, HR, HB⟩ := hrel
  by_cases hlt : k < l.length
  · have hlt' : (k : Int) < l.length := by omega
    obtain ⟨t, ht⟩ : ∃ t, l[k]? = some t := ⟨_, List.getElem?_eq_getElem hlt⟩
    obtain ⟨b, off, A2, c2, rfl, e0, hc2, hC2⟩ := slice_at HC.out ht
    have e0 := cell_below HB.out e0
    have HC2 := Lib.hid (Kd.C_below hC2 HB.out)
    have ht1 : t.length ≤ 1000000 := by have := H2.out t (List.mem_of_getElem? ht); omega
    have HT : Hid (numB (l.length : Int) ++ textsB (l.take (k + 1)) = numB (l.length : Int) ++ textsB (l.take k) ++ textB t) := Lib.hid (by rw [List.take_add_one, ht, textsB_append, List.append_assoc]; simp [textsB])
    have hb1 := textB_le t 10000 (H2.out t (List.mem_of_getElem? ht))
    have hb2 : (numB (l.length : Int) ++ textsB (l.take k)).length ≤ 200000000 := by
      have b1 := numB_le (l.length : Int)
      have b3 := textsB_le (l.take k) 10000 (fun t ht => H2.out t (List.mem_of_mem_take ht))
      have b4 : (l.take k).length * (10000 + 9) ≤ 10000 * 10009 := Nat.mul_le_mul (by rw [List.length_take]; omega) (by omega)
      rw [List.length_append]
      omega
    obtain ⟨bs, hbs⟩ : ∃ bs, bs = numB (l.length : Int) ++ textsB (l.take k) := ⟨_, rfl⟩
    rw [← hbs] at HR HT hb2
    clear hC2 ht hbs
    go_wp2_with (first | ((with_reducible go_at_call 13); go_must (refine (text_ok A2 c2 t _ HC2.out hc2 ht1).mono ?_; rintro e w' ⟨vT, rfl, hr, hb⟩; obtain ⟨AT, cT, rfl⟩ := Kd.R_slice hr; have HT2 := Lib.hid (Kd.R_reads' hr).2.2; have hr_ := Kd.R_below HR.out hb; have hb_ := below_step HB.out hb; clear HR HB hr hb; have HR := Lib.hid hr_; have HB := Lib.hid hb_; clear hr_ hb_)) | ((with_reducible refine gate_builtin (b := .append) (xs := #[.tmp 16, .tmp 18]) rfl ?_); at_builtin; go_must (refine Kd.R_append_rows (Kd.int .u8) (w0 := w) (w.heap.size) rfl (.tmp 16) (.tmp 18) 27 5 (.int .u8 0) 1 rfl Try.underlying27 info5 rfl (by decide) (by omega) (_) (bs) (textB t) _ _ _ (fun _ => True) (fun _ => False) rfl rfl (HR.out) (HT2.out) (fun x cs h => h) (fun _ h => h.elim) (fun _ _ => trivial) HB.out HB.out.size ?aL ?_; (case aL => omega); intro vA wA ho hb hg hat; have HR2 := Lib.hid ho; clear HB; have HB := Lib.hid hb; clear ho hb hg hat)))
    exact ⟨⟨k + 1, _, by go_num, by omega, rfl, Lib.hid (by rw [HT.out]; exact HR2.out), HB⟩, by simp [intOf]; omega⟩
  · have hlt' : (l.length : Int) ≤ k := by omega
    have hke : Hid (l.take k = l) := Lib.hid (List.take_of_length_le (by omega))
    go_wp2
    go_ret
    exact ⟨_, rfl, by have := HR.out; rw [hke.out] at this; exact this, HB.out⟩
end Go.Proofs.Ytnkaalapjlmmiaa.WireW
