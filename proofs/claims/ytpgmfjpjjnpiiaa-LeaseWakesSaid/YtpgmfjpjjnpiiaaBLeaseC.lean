/- PROVED: lemmas that the row uses (cut copies of my texts and of the printed ones). No condition beyond what each line says. -/
import Derived.Test.YtpgmfjpjjnpiiaaBLeaseB
import Derived.Test.YtpgmfjpjjnpiiaaBXA
import Derived.Test.YtpgmfjpjjnpiiaaBWAll
import Derived.WalkKit
import Derived.WalkSpells
import Derived.WalkLawsBesides
import Derived.Outline
import Derived.Lib.Hide
import Derived.Deep.LoopGhost
import Derived.Deep.RegionHeld3
import Derived.Deep.DeepCutAuto
import Derived.Deep.RegionLaw
import Derived.BigQuiet
import Derived.Deep.QuietTactic
namespace Go.Proofs.Ytpgmfjpjjnpiiaa.LeaseC
open Go.RowKit Go.Proofs.Ytpgmfjpjjnpiiaa.PLeaseWakes Go.Proofs.YtpgmfjpjjnpiiaaW.PrintWords Go.Proofs.YtpgmfjpjjnpiiaaW.PrintLast Go.Proofs.YtpgmfjpjjnpiiaaW.PrintMore
attribute [local go_sem] max2_int min2_int max_two min_two max_three min_three max_four min_four
set_option linter.unusedSimpArgs false
set_option linter.unusedVariables false
open Go.Proofs.Ytpgmfjpjjnpiiaa.LeaseA
open Go.Proofs.Ytpgmfjpjjnpiiaa.LeaseB
set_option maxHeartbeats 4000000 in
set_option maxRecDepth 100000 in
theorem all_give (B : Nat) (base r : Nat) (ok : Nat → Prop) (v : Value) (s : ES) (A : Option Addr) (c : Nat) (l0 : List S38) (w : World) (h : EIs base ok w r v s) (hrB : r < B) (hoB : ∀ k, ok k → k < B) (hB : B ≤ w.heap.size) (hR : Kd.R k38 38 w B (fun _ => True) (.slice A l0.length c) l0) (hl : l0.length ≤ 100) (n : Nat) (hn : s.n = n) (hn5 : n ≤ 5) :
    Calls Try.prog 35 #[.pointer (some ⟨r, 0, none⟩), .slice A l0.length c, .func (.func 36) #[.pointer (some ⟨r, 0, none⟩)] #[]] w fun e w' => ∃ A' c', e = .returned (.slice A' (l0 ++ outG s n).length c') ∧ Kd.R k38 38 w' B (fun _ => True) (.slice A' (l0 ++ outG s n).length c') (l0 ++ outG s n) ∧ Below B w w' := by
  have c1 := h.cells.2.1
  rw [hn] at c1
  have H := Lib.hid h
  have HR := Lib.hid hR
  have HB := Lib.hid (Below.refl B w)
  have HOB := Lib.hid hoB
  skip
  clear h hR hoB
  go_enter Try.func35, Try.ntmps35
  go_upto_region 2 with (fail)
  go_loopw [1, 12] (fun u1 u12 wr => ∃ (i : Nat) (A' : Option Addr) (c' : Nat), u12 = .int .i64 i ∧ i ≤ n ∧ u1 = .slice A' (l0 ++ outG s i).length c' ∧ Hid (Kd.R k38 38 wr B (fun _ => True) (.slice A' (l0 ++ outG s i).length c') (l0 ++ outG s i)) ∧ Hid (Below B w wr)) (fun _ u12 _ => n - (intOf u12).toNat)
  case atStart => exact ⟨0, A, c, rfl, Nat.zero_le _, by simp [outG], Lib.hid (by simpa [outG] using HR.out), HB⟩
  clear HR HB c1
  obtain ⟨i, A', c', rfl, hi, rfl, HR, HB⟩ := hrel
  by_cases hlt : i < n
  · have hlt' : (i : Int) < n := by omega
    obtain ⟨lo, hlo⟩ : ∃ lo_, l0 ++ outG s i = lo_ := ⟨_, rfl⟩
    have hll : Hid (lo.length = l0.length + i) := Lib.hid (by rw [← hlo, List.length_append, outG_len])
    rw [hlo] at HR ⊢
    go_wp2_with (first | ((with_reducible go_at_call 36); go_must (refine (give_ok base r ok v s i _ (EIs.low H.out hrB HOB.out HB.out)).mono ?_; rintro e w1 ⟨rfl, hb⟩; have hr_ := Kd.R_below HR.out hb; have hb_ := below_then HB.out (Nat.le_trans hB HB.out.size) hb; clear HR HB; have HR := Lib.hid hr_; have HB := Lib.hid hb_; clear hr_ hb_ hb)) | ((with_reducible refine gate_builtin (b := .append) (xs := #[.tmp 15, .tmp 19]) rfl ?_); at_builtin; go_must (refine Kd.R_append k38 (w0 := w) B rfl (.tmp 15) (.tmp 19) 45 38 (.agg #[.int .i64 0, .int .i64 0, .int .i64 0, .int .i64 0, .int .i64 0, .int .i64 0, .bool false, .int .i64 0, .int .i64 0]) 72 rfl Try.underlying45 info38 rfl (by decide) (by decide) (.slice A' lo.length c') lo (postG s i) [.int .i64 (i : Int), .int .i64 3, .int .i64 s.a0, .int .i64 s.a1, .int .i64 s.a2, .int .i64 0, .bool false, .int .i64 0, .int .i64 0] (fun _ => True) (fun _ => False) rfl rfl ?aP (fun _ hk => hk.elim) (fun _ _ => trivial) HR.out HB.out ?aB ?aL ?_; (case aP => exact k38_mkM _ _ _ (postG s i)); (case aB => exact Nat.le_trans hB HB.out.size); (case aL => have := hll.out; omega); intro v8 w8 ho hb hg hat; obtain ⟨A8, c8, rfl⟩ := Kd.R_slice ho; have HR8_ := Lib.hid ho; clear HR HB; have HR := HR8_; have HB := Lib.hid hb; clear HR8_ ho hb hg hat)))
    have hfin : lo ++ [postG s i] = l0 ++ outG s (i + 1) := by rw [← hlo, outG_succ, List.append_assoc]
    have hR9 := HR
    rw [hfin] at hR9
    refine ⟨⟨i + 1, A8, c8, by go_num, by omega, by rw [← hfin]; simp, hR9, HB⟩, by simp [intOf]; omega⟩
  · have hlt' : (n : Int) ≤ i := by omega
    obtain rfl : i = n := by omega
    go_wp2
    go_ret
    exact ⟨A', c', rfl, HR.out, HB.out⟩
set_option maxHeartbeats 4000000 in
set_option maxRecDepth 100000 in
theorem all_ask (B : Nat) (base r : Nat) (ok : Nat → Prop) (v : Value) (s : ES) (a : Nat) (x y z : Int) (A : Option Addr) (c : Nat) (l0 : List S38) (w : World) (h : EIs base ok w r v s) (hrB : r < B) (hoB : ∀ k, ok k → k < B) (hB : B ≤ w.heap.size) (hX : w.heap[a]? = some (.cells #[.int .i64 x, .int .i64 y, .int .i64 z] 34 (0, 0))) (hR : Kd.R k38 38 w B (fun _ => True) (.slice A l0.length c) l0) (hl : l0.length ≤ 100) (n : Nat) (hn : s.n = n) (hn5 : n ≤ 5) :
    Calls Try.prog 35 #[.pointer (some ⟨r, 0, none⟩), .slice A l0.length c, .func (.func 51) #[] #[.pointer (some ⟨a, 0, none⟩)]] w fun e w' => ∃ A' c', e = .returned (.slice A' (l0 ++ outA x y z n).length c') ∧ Kd.R k38 38 w' B (fun _ => True) (.slice A' (l0 ++ outA x y z n).length c') (l0 ++ outA x y z n) ∧ Below B w w' := by
  have c1 := h.cells.2.1
  rw [hn] at c1
  have H := Lib.hid h
  have HR := Lib.hid hR
  have HB := Lib.hid (Below.refl B w)
  have HOB := Lib.hid hoB
  have HX := Lib.hid hX
  clear hX
  clear h hR hoB
  go_enter Try.func35, Try.ntmps35
  go_upto_region 2 with (fail)
  go_loopw [1, 12] (fun u1 u12 wr => ∃ (i : Nat) (A' : Option Addr) (c' : Nat), u12 = .int .i64 i ∧ i ≤ n ∧ u1 = .slice A' (l0 ++ outA x y z i).length c' ∧ Hid (Kd.R k38 38 wr B (fun _ => True) (.slice A' (l0 ++ outA x y z i).length c') (l0 ++ outA x y z i)) ∧ Hid (Below B w wr) ∧ Hid (wr.heap[a]? = some (.cells #[.int .i64 x, .int .i64 y, .int .i64 z] 34 (0, 0)))) (fun _ u12 _ => n - (intOf u12).toNat)
  case atStart => exact ⟨0, A, c, rfl, Nat.zero_le _, by simp [outA], Lib.hid (by simpa [outA] using HR.out), HB, HX⟩
  clear HR HB c1 HX
  obtain ⟨i, A', c', rfl, hi, rfl, HR, HB, HX⟩ := hrel
  by_cases hlt : i < n
  · have hlt' : (i : Int) < n := by omega
    obtain ⟨lo, hlo⟩ : ∃ lo_, l0 ++ outA x y z i = lo_ := ⟨_, rfl⟩
    have hll : Hid (lo.length = l0.length + i) := Lib.hid (by rw [← hlo, List.length_append, outA_len])
    rw [hlo] at HR ⊢
    go_wp2_with (first | ((with_reducible go_at_call 51); go_must (refine (askc_ok a x y z i _ HX.out).mono ?_; rintro e w1 ⟨rfl, hb⟩; have hr_ := Kd.R_below HR.out hb; have hb_ := below_then HB.out (Nat.le_trans hB HB.out.size) hb; have hx_ := blk_below HX.out hb; clear HR HB HX; have HR := Lib.hid hr_; have HB := Lib.hid hb_; have HX := Lib.hid hx_; clear hr_ hb_ hx_ hb)) | ((with_reducible refine gate_builtin (b := .append) (xs := #[.tmp 15, .tmp 19]) rfl ?_); at_builtin; go_must (refine Kd.R_append k38 (w0 := w) B rfl (.tmp 15) (.tmp 19) 45 38 (.agg #[.int .i64 0, .int .i64 0, .int .i64 0, .int .i64 0, .int .i64 0, .int .i64 0, .bool false, .int .i64 0, .int .i64 0]) 72 rfl Try.underlying45 info38 rfl (by decide) (by decide) (.slice A' lo.length c') lo (postA x y z i) [.int .i64 (i : Int), .int .i64 1, .int .i64 x, .int .i64 y, .int .i64 z, .int .i64 0, .bool false, .int .i64 0, .int .i64 0] (fun _ => True) (fun _ => False) rfl rfl ?aP (fun _ hk => hk.elim) (fun _ _ => trivial) HR.out HB.out ?aB ?aL ?_; (case aP => exact k38_mkM _ _ _ (postA x y z i)); (case aB => exact Nat.le_trans hB HB.out.size); (case aL => have := hll.out; omega); intro v8 w8 ho hb hg hat; obtain ⟨A8, c8, rfl⟩ := Kd.R_slice ho; have hx_ := blk_grown HX.out hg (Kd.R_ne HR.out HX.out (by decide)); clear HX; have HX := Lib.hid hx_; clear hx_; have HR8_ := Lib.hid ho; clear HR HB; have HR := HR8_; have HB := Lib.hid hb; clear HR8_ ho hb hg hat)))
    have hfin : lo ++ [postA x y z i] = l0 ++ outA x y z (i + 1) := by rw [← hlo, outA_succ, List.append_assoc]
    have hR9 := HR
    rw [hfin] at hR9
    refine ⟨⟨i + 1, A8, c8, by go_num, by omega, by rw [← hfin]; simp, hR9, HB, HX⟩, by simp [intOf]; omega⟩
  · have hlt' : (n : Int) ≤ i := by omega
    obtain rfl : i = n := by omega
    go_wp2
    go_ret
    exact ⟨A', c', rfl, HR.out, HB.out⟩
end Go.Proofs.Ytpgmfjpjjnpiiaa.LeaseC
