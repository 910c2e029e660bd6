/- PROVED: contracts of the reference's Digest. No condition beyond what each line says. -/
import Derived.Test.YtnkaalapjlmmiaaWireF
import Derived.Test.YtnkaalapjlmmiaaWKept
import Derived.Test.YtnkaalapjlmmiaaWApart
import Derived.Laws.Rows
import Derived.Laws.Tables
import Derived.Laws.CopyOwn
import Derived.Test.YtnkaalapjlmmiaaLRead
import Derived.Test.YtnkaalapjlmmiaaWApart
import Derived.WalkKit
import Derived.WalkSpells
import Derived.WalkLawsBesides
import Derived.WalkMore
import Derived.Outline
import Derived.Lib.Hide
import Derived.BigQuiet
import Derived.Deep.QuietTactic
import Derived.Deep.RegionHeld3
import Derived.Deep.RegionLaw
import Derived.Deep.LoopGhost
import Derived.Deep.DeepCutAuto
namespace Go.Proofs.Ytnkaalapjlmmiaa.WireFD
open Go.RowKit Go.Proofs.Ytnkaalapjlmmiaa.PWireWrites Go.Proofs.Ytnkaalapjlmmiaa.WirePure Go.Proofs.YtnkaalapjlmmiaaW.PrintWords Go.Proofs.YtnkaalapjlmmiaaW.PrintLast Go.Proofs.YtnkaalapjlmmiaaW.PrintMore
open Go.Proofs.Ytnkaalapjlmmiaa.WireW (slice_at cell_below num_ok text_ok list_ok)
open Go.Proofs.Ytnkaalapjlmmiaa.WireR Go.Proofs.Ytnkaalapjlmmiaa.WireR2 Go.Proofs.Ytnkaalapjlmmiaa.WireR3
open Go.Proofs.Ytnkaalapjlmmiaa.WireT Go.Proofs.Ytnkaalapjlmmiaa.WireD Go.Proofs.Ytnkaalapjlmmiaa.WirePure2
open Go.Proofs.Ytnkaalapjlmmiaa.WireT2 Go.Proofs.Ytnkaalapjlmmiaa.WireF
set_option linter.unusedSimpArgs false
set_option linter.unusedVariables false
/-- 32 bytes are answered. -/
def FDigIs (w0 : World) (r : Nat) (d : List Int) (x : List Int × Nat × Int) (w : World) (y : Ending) (w' : World) : Prop :=
  y = .returned (.agg (c8 x.1).toArray) ∧ RfX w0 w' r (d.drop x.2.1) x.2.2 ∧ w.grownBy w' (some r)
theorem fdig_mk {w0 : World} {r : Nat} {d : List Int} {k : Nat} {w W : World} {Z : List Value} {zs : List Int} {e : Int} (hZ : Z = c8 zs) (hr : RfX w0 W r (d.drop k) e) (hg : w.grownBy W (some r)) : FDigIs w0 r d (zs, k, e) w (.returned (.agg Z.toArray)) W := by
  subst hZ
  exact ⟨rfl, hr, hg⟩
theorem blk_set_other {w : World} {g r j : Nat} {o : Obj} {u : Value} (h : w.heap[g]? = some o) (hne : r ≠ g) : (w.setCell ⟨r, j, none⟩ u).heap[g]? = some o := blk_grown h (grown_set _ _ _ _) (fun e => hne (by simpa using e.symm))
theorem c8_set (ys : List Int) (i : Nat) (x : Int) : (c8 ys).toArray.setIfInBounds i (.int .u8 x) = (c8 (ys.set i x)).toArray := by
  simp [c8, List.map_set]
theorem c8_at (ys : List Int) (i : Nat) (h : i < ys.length) : (c8 ys).toArray[i]? = some (.int .u8 ys[i]) := by
  simp [c8, h]
/-- Nothing but fresh rows, and the reader's cell, was written. -/
theorem rf_row {w0 w W : World} {r g : Nat} {A : Option Addr} {c : Nat} {d : List Int} {e : Int} {cs : Array Value} (hr : RfIs w0 W r A c d e) (hg : w.grownBy W (some r)) (hlt : r < w.heap.size) (hgw : w.heap.size ≤ g) (hww : w0.heap.size ≤ w.heap.size) :
    RfIs w0 (W.setRow g cs) r A c d e ∧ w.grownBy (W.setRow g cs) (some r) := by
  refine ⟨hr.other (grown_setRow W g cs) (fun e => by simp at e; omega) (Below.grown hr.2.2.2.2 (grown_setRow W g cs) hr.2.2.2.2.size (fun k hk => by cases hk; omega)), World.grownBy.andThen hg (grown_setRow W g cs) (fun j hj => .inl (by cases hj; exact hgw))⟩
set_option maxHeartbeats 4000000 in
set_option maxRecDepth 100000 in
theorem fdigest_off (r : Nat) (x : Int) (w : World) (h2 : w.cell? ⟨r, 1, none⟩ = some (.int .i64 x)) (hx : (x != 0) = true) : Calls Try.prog 35 #[.pointer (some ⟨r, 0, none⟩)] w fun y w' => y = .returned (.agg (c8 (List.replicate 32 0)).toArray) ∧ Below w.heap.size w w' := by
  obtain ⟨Z, hZ⟩ : ∃ Z, Z = c8 (List.replicate 32 0) := ⟨_, rfl⟩
  have hzl : Z.length = 32 := by rw [hZ, c8_length, List.length_replicate]
  have hz1 : ∀ v ∈ Z, v.oneCell' = true := by rw [hZ]; exact c8_one _
  have hzz := zero51
  rw [← hZ] at hzz
  have HZ := Lib.hid hzz
  have HZL := Lib.hid hzl
  have HZ1 := Lib.hid hz1
  have HZe := Lib.hid hZ
  clear hZ hzl hz1 hzz
  rw [← HZe.out]
  have HB := Lib.hid (Below.refl w.heap.size w)
  go_enter Try.func35, Try.ntmps35
  go_wp2_with (first | ((with_reducible refine gate_dst (N := 2) rfl ?_); refine alloc_ev rfl (T := 51) rfl HZ.out (vs := Z) (by simp [Value.cells]) ?_; intro g2 hg w1 hbox hb; have H2 := Lib.hid hbox; have hG2 := Lib.hid (Nat.le_trans HB.out.size (Nat.le_of_eq hg.symm)); have hb_ := below_step HB.out hb; clear HB; have HB := Lib.hid hb_; clear hb_ hb; clear hbox hg) | ((with_reducible refine gate_dst (N := 3) rfl ?_); refine alloc_ev rfl (T := 51) rfl HZ.out (vs := Z) (by simp [Value.cells]) ?_; intro g3 hg w1 hbox hb; have H3 := Lib.hid hbox; have hG3 := Lib.hid (Nat.le_trans HB.out.size (Nat.le_of_eq hg.symm)); have h23 := Lib.hid (Nat.lt_of_lt_of_le (blk_lt H2.out) (Nat.le_of_eq hg.symm)); have h2_ := blk_below H2.out hb; clear H2; have H2 := Lib.hid h2_; have hb_ := below_step HB.out hb; clear HB; have HB := Lib.hid hb_; clear hb_ hb; clear hbox hg h2_; have h2c := cell_below HB.out h2) | (refine wpList_load_row rfl 51 (.tmp 3) rfl g3 rfl 51 Z.toArray (0, 0) _ H3.out Try.underlying51 rfl (by rw [size51]; simp [HZL.out]) ?_) | (refine wpList_store_row rfl 51 (.tmp 2) _ rfl g2 Z.toArray rfl rfl 51 Z.toArray H2.out (by rw [size51]; simp [HZL.out]) rfl (by simpa using HZ1.out) ?_))
  refine bodyPost_ret (results_cell_row rfl _ _ g2 51 Z.toArray (0, 0) _ rfl (setRow_heap _ g2 _ _ _ _ H2.out) Try.underlying51 rfl (by rw [size51]; simp [HZL.out])) rfl ⟨rfl, Below.grown HB.out (grown_setRow _ _ _) HB.out.size (fun k hk => by cases hk; exact hG2.out)⟩
set_option maxHeartbeats 4000000 in
set_option maxRecDepth 100000 in
theorem fdigest_read (w0 : World) (r : Nat) (A : Option Addr) (c : Nat) (d : List Int) (w : World) (h : RfIs w0 w r A c d 0) (hl : d.length ≤ 1000000000) :
    Calls Try.prog 35 #[.pointer (some ⟨r, 0, none⟩)] w (FDigIs w0 r d (digestD d) w) := by
  have hlt := h.lt
  have hww := h.2.2.2.2.size
  have HR := Lib.hid h
  have HG := Lib.hid (World.grownBy.refl w (some r))
  clear h
  unfold digestD
  obtain ⟨Z, hZ⟩ : ∃ Z, Z = c8 (List.replicate 32 0) := ⟨_, rfl⟩
  have hzl : Z.length = 32 := by rw [hZ, c8_length, List.length_replicate]
  have hz1 : ∀ v ∈ Z, v.oneCell' = true := by rw [hZ]; exact c8_one _
  have hzz := zero51
  rw [← hZ] at hzz
  have HZ := Lib.hid hzz
  have HZL := Lib.hid hzl
  have HZ1 := Lib.hid hz1
  have HZe := Lib.hid hZ
  clear hZ hzl hz1 hzz
  by_cases q : d.length < 32
  · rw [if_pos q]
    have q' : (d.length : Int) < 32 := by omega
    clear q
    go_enter Try.func35, Try.ntmps35
    go_wp2_with (first | ((with_reducible refine gate_dst (N := 2) rfl ?_); refine alloc_ev rfl (T := 51) rfl HZ.out (vs := Z) (by simp [Value.cells]) ?_; intro g2 hg w1 hbox hb; have H2 := Lib.hid hbox; have hG2 := Lib.hid (Nat.le_trans HG.out.size (Nat.le_of_eq hg.symm)); have hb_ := HR.out.below hb; have hg_ := HG.out.trans (grown_below hb (some r)); clear HR HG; have HR := Lib.hid hb_; have HG := Lib.hid hg_; clear hb_ hg_; have h0c := HR.out.c0; have h1c := HR.out.c1; have f0c := HR.out.f0; have f1c := HR.out.f1; clear hb; clear hbox hg) | ((with_reducible refine gate_dst (N := 3) rfl ?_); refine alloc_ev rfl (T := 51) rfl HZ.out (vs := Z) (by simp [Value.cells]) ?_; intro g3 hg w1 hbox hb; have H3 := Lib.hid hbox; have hG3 := Lib.hid (Nat.le_trans HG.out.size (Nat.le_of_eq hg.symm)); have h23 := Lib.hid (Nat.lt_of_lt_of_le (blk_lt H2.out) (Nat.le_of_eq hg.symm)); have h2_ := blk_below H2.out hb; clear H2; have H2 := Lib.hid h2_; have hb_ := HR.out.below hb; have hg_ := HG.out.trans (grown_below hb (some r)); clear HR HG; have HR := Lib.hid hb_; have HG := Lib.hid hg_; clear hb_ hg_; clear h0c h1c f0c f1c; have h0c := HR.out.c0; have h1c := HR.out.c1; have f0c := HR.out.f0; have f1c := HR.out.f1; clear hb; clear hbox hg h2_) | (refine wpList_load_row rfl 51 (.tmp 3) rfl g3 rfl 51 Z.toArray (0, 0) _ (blk_set_other H3.out (by have := hG3.out; omega)) Try.underlying51 rfl (by rw [size51]; simp [HZL.out]) ?_) | (refine wpList_store_row rfl 51 (.tmp 2) _ rfl g2 Z.toArray rfl rfl 51 Z.toArray (blk_set_other H2.out (by have := hG2.out; omega)) (by rw [size51]; simp [HZL.out]) rfl (by simpa using HZ1.out) ?_))
    have hne : r ≠ g2 := by have := hG2.out; omega
    obtain ⟨p1, p2⟩ := rf_row (cs := Z.toArray) (HR.out.set1 40) (HG.out.trans (grown_set _ _ _ _)) hlt hG2.out hww
    exact bodyPost_ret (results_cell_row rfl _ _ g2 51 Z.toArray (0, 0) _ rfl (setRow_heap _ g2 _ _ _ _ (blk_set_other H2.out hne)) Try.underlying51 rfl (by rw [size51]; simp [HZL.out])) rfl (fdig_mk HZe.out p1.X p2)
  · rw [if_neg q]
    have q1 : 32 ≤ d.length := by omega
    have q2 : (32 : Int) ≤ d.length := by omega
    have HDN : Hid ((d.drop 32).length = d.length - 32) := Lib.hid (by rw [List.length_drop])
    obtain ⟨b, off, rfl, hb, hel⟩ := LRead.C_addr HR.out.2.2.2.1 (by decide) (by omega)
    have HEL : Hid (∀ (W : World), Below w0.heap.size w0 W → ∀ (i : Nat) (hi : i < d.length), W.cell? ⟨b, off + i, none⟩ = some (.int .u8 d[i])) := Lib.hid (by
      intro W hW i hi
      obtain ⟨cc, hc, hK, hcell⟩ := hel i d[i] (List.getElem?_eq_getElem hi)
      have hK2 : cc = [.int .u8 d[i]] := hK
      subst hK2
      have := hcell 0 _ rfl
      rw [show off + i * (Kd.int .u8).sz + 0 = off + i from by show off + i * 1 + 0 = off + i; omega] at this
      exact cell_below hW this)
    clear hel q
    go_enter Try.func35, Try.ntmps35
    go_upto_region 8 with (first | ((with_reducible refine gate_dst (N := 2) rfl ?_); refine alloc_ev rfl (T := 51) rfl HZ.out (vs := Z) (by simp [Value.cells]) ?_; intro g2 hg w1 hbox hb; have H2 := Lib.hid hbox; have hG2 := Lib.hid (Nat.le_trans HG.out.size (Nat.le_of_eq hg.symm)); have hb_ := HR.out.below hb; have hg_ := HG.out.trans (grown_below hb (some r)); clear HR HG; have HR := Lib.hid hb_; have HG := Lib.hid hg_; clear hb_ hg_; have h0c := HR.out.c0; have h1c := HR.out.c1; have f0c := HR.out.f0; have f1c := HR.out.f1; clear hb; clear hbox hg) | ((with_reducible refine gate_dst (N := 3) rfl ?_); refine alloc_ev rfl (T := 51) rfl HZ.out (vs := Z) (by simp [Value.cells]) ?_; intro g3 hg w1 hbox hb; have H3 := Lib.hid hbox; have hG3 := Lib.hid (Nat.le_trans HG.out.size (Nat.le_of_eq hg.symm)); have h23 := Lib.hid (Nat.lt_of_lt_of_le (blk_lt H2.out) (Nat.le_of_eq hg.symm)); have h2_ := blk_below H2.out hb; clear H2; have H2 := Lib.hid h2_; have hb_ := HR.out.below hb; have hg_ := HG.out.trans (grown_below hb (some r)); clear HR HG; have HR := Lib.hid hb_; have HG := Lib.hid hg_; clear hb_ hg_; clear h0c h1c f0c f1c; have h0c := HR.out.c0; have h1c := HR.out.c1; have f0c := HR.out.f0; have f1c := HR.out.f1; clear hb; clear hbox hg h2_))
    clear h0c h1c f0c f1c
    go_loopw [4] (fun u4 wr => ∃ (i : Nat) (ys : List Int), u4 = .int .i64 i ∧ i ≤ 32 ∧ Hid (ys.length = 32) ∧ Hid (ys.take i = d.take i) ∧ Hid (wr.heap[g2]? = some (.cells Z.toArray 51 (0, 0))) ∧ Hid (wr.heap[g3]? = some (.cells (c8 ys).toArray 51 (0, 0))) ∧ Hid (RfIs w0 wr r (some ⟨b, off, none⟩) c d 0) ∧ Hid (w.grownBy wr (some r))) (fun u4 _ => 32 - (intOf u4).toNat)
    case atStart => exact ⟨0, List.replicate 32 0, rfl, by omega, Lib.hid (by simp), Lib.hid rfl, H2, Lib.hid (by have := H3.out; rw [HZe.out] at this; exact this), HR, HG⟩
    clear HR HG H2 H3
    obtain ⟨i, ys, rfl, hi, HYL, HYT, H2, H3, HR, HG⟩ := hrel
    have h0c := HR.out.c0
    by_cases hlt2 : i < 32
    · have hlt' : (i : Int) < 32 := by omega
      have hiI : (i : Int) < d.length := by omega
      have hid_ : i < d.length := by omega
      have e0 := HEL.out _ HR.out.2.2.2.2 i hid_
      obtain ⟨x, hx⟩ : ∃ x, d[i] = x := ⟨_, rfl⟩
      rw [hx] at e0
      have HXE := Lib.hid hx
      have e3 : wr.cell? ⟨g3, i, none⟩ = some (.int .u8 (ys[i]'(by rw [HYL.out]; exact hlt2))) := (blk_cell H3.out i).trans (c8_at ys i (by rw [HYL.out]; exact hlt2))
      have f3 := blk_frozen H3.out i
      obtain ⟨z, hz⟩ : ∃ z, (ys[i]'(by rw [HYL.out]; exact hlt2)) = z := ⟨_, rfl⟩
      rw [hz] at e3
      clear hx hz
      go_wp2
      refine ⟨⟨i + 1, ys.set i x, by go_num, by omega, Lib.hid (by rw [List.length_set]; exact HYL.out), Lib.hid ?_, Lib.hid (blk_set_other H2.out (by have := h23.out; omega)), Lib.hid (blk_put H3.out i _ (c8_set ys i x)), Lib.hid ?_, Lib.hid (World.grownBy.andThen HG.out (grown_set _ g3 i _) (fun j hj => .inl (by cases hj; exact hG3.out)))⟩, by simp [intOf]; omega⟩
      · have hiy : i < ys.length := by rw [HYL.out]; exact hlt2
        rw [List.take_add_one, List.take_add_one, List.take_set_of_le (Nat.le_refl i), HYT.out]
        simp [hiy, hid_, HXE.out]
      · exact HR.out.other (grown_set _ g3 i _) (fun e => by have := hG3.out; simp at e; omega) (below_set HR.out.2.2.2.2 (Nat.le_trans hww hG3.out))
    · have hlt' : (32 : Int) ≤ i := by omega
      obtain rfl : i = 32 := by omega
      have hys : ys = d.take 32 := by have := HYT.out; rwa [List.take_of_length_le (by rw [HYL.out]; exact Nat.le_refl _)] at this
      have hdl : (c8 ys).length = 32 := by rw [c8_length]; exact HYL.out
      have HDL := Lib.hid hdl
      obtain ⟨ds, hds⟩ : ∃ ds, ds = ys := ⟨_, rfl⟩
      rw [← hds] at HDL H3
      have HDE := Lib.hid (hds.trans hys)
      have f0c := HR.out.f0
      have hcI : (32 : Int) ≤ c := by have := HR.out.2.2.1; omega
      clear hys hds hdl HYT HYL
      have hne2 : r ≠ g2 := by have := hG2.out; omega
      have hne3 : r ≠ g3 := by have := hG3.out; omega
      by_cases qc : c = 32
      · have hd32 : d.length = 32 := by have := HR.out.2.2.1; omega
        have HC := Lib.hid (C_rest HR.out.2.2.2.1 HR.out.2.2.1 32 q1 (some ⟨b, off, none⟩) (by rw [if_pos qc]))
        have HD3 := Lib.hid hd32
        subst qc
        clear hd32
        go_wp2_with (first | (refine wpList_load_row rfl 51 (.tmp 3) rfl g3 rfl 51 (c8 ds).toArray (0, 0) _ (blk_set_other H3.out hne3) Try.underlying51 rfl (by rw [size51]; simp [HDL.out]) ?_) | (refine wpList_store_row rfl 51 (.tmp 2) _ rfl g2 (c8 ds).toArray rfl rfl 51 Z.toArray (blk_set_other H2.out hne2) (by rw [size51]; simp [HDL.out]) (by simp [HZL.out, HDL.out]) (by simpa using c8_one ds) ?_))
        have hdn : d.length - 32 = (d.drop 32).length := HDN.out.symm
        rw [hdn] at *
        obtain ⟨p1, p2⟩ := rf_row (cs := (c8 ds).toArray) (HR.out.set0 (c' := 0) (by have := HD3.out; rw [List.length_drop]; omega) HC.out) (HG.out.trans (grown_set _ _ _ _)) hlt hG2.out hww
        exact bodyPost_ret (results_cell_row rfl _ _ g2 51 (c8 ds).toArray (0, 0) _ rfl (setRow_heap _ g2 _ _ _ _ (blk_set_other H2.out hne2)) Try.underlying51 rfl (by rw [size51]; simp [HDL.out])) rfl (fdig_mk (congrArg c8 HDE.out) p1.X p2)
      · have HC := Lib.hid (C_rest HR.out.2.2.2.1 HR.out.2.2.1 32 q1 (some ⟨b, off + 32, none⟩) (by rw [if_neg qc]; simp [Addr.add]))
        go_wp2_with (first | (refine wpList_load_row rfl 51 (.tmp 3) rfl g3 rfl 51 (c8 ds).toArray (0, 0) _ (blk_set_other H3.out hne3) Try.underlying51 rfl (by rw [size51]; simp [HDL.out]) ?_) | (refine wpList_store_row rfl 51 (.tmp 2) _ rfl g2 (c8 ds).toArray rfl rfl 51 Z.toArray (blk_set_other H2.out hne2) (by rw [size51]; simp [HDL.out]) (by simp [HZL.out, HDL.out]) (by simpa using c8_one ds) ?_))
        have hdn : d.length - 32 = (d.drop 32).length := HDN.out.symm
        obtain ⟨p1, p2⟩ := rf_row (cs := (c8 ds).toArray) (HR.out.set0 (c' := c - 32) (by have := HR.out.2.2.1; rw [List.length_drop]; omega) HC.out) (HG.out.trans (grown_set _ _ _ _)) hlt hG2.out hww
        rw [← hdn] at p1 p2
        exact bodyPost_ret (results_cell_row rfl _ _ g2 51 (c8 ds).toArray (0, 0) _ rfl (setRow_heap _ g2 _ _ _ _ (blk_set_other H2.out hne2)) Try.underlying51 rfl (by rw [size51]; simp [HDL.out])) rfl (fdig_mk (congrArg c8 HDE.out) p1.X p2)
end Go.Proofs.Ytnkaalapjlmmiaa.WireFD
