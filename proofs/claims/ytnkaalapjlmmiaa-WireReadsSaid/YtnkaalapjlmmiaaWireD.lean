/- PROVED: contracts of layer 4's Digest. No condition beyond what each line says. -/
import Derived.Test.YtnkaalapjlmmiaaWireT
import Derived.Test.YtnkaalapjlmmiaaLOwn
import Derived.Test.YtnkaalapjlmmiaaWKept
import Derived.Test.YtnkaalapjlmmiaaWApart
import Derived.Laws.Rows
import Derived.Laws.Tables
import Derived.Laws.CopyOwn
import Derived.Test.YtnkaalapjlmmiaaLRead
import Derived.Test.YtnkaalapjlmmiaaWApart
import Derived.WalkKit
import Derived.WalkSpells
import Derived.WalkLawsBesides
import Derived.WalkMore
import Derived.Outline
import Derived.Lib.Hide
import Derived.BigQuiet
import Derived.Deep.QuietTactic
import Derived.Deep.RegionHeld3
import Derived.Deep.RegionLaw
import Derived.Deep.LoopGhost
import Derived.Deep.DeepCutAuto
namespace Go.Proofs.Ytnkaalapjlmmiaa.WireD
open Go.RowKit Go.Proofs.Ytnkaalapjlmmiaa.PWireWrites Go.Proofs.Ytnkaalapjlmmiaa.WirePure Go.Proofs.YtnkaalapjlmmiaaW.PrintWords Go.Proofs.YtnkaalapjlmmiaaW.PrintLast Go.Proofs.YtnkaalapjlmmiaaW.PrintMore
open Go.Proofs.Ytnkaalapjlmmiaa.WireW (slice_at cell_below num_ok text_ok list_ok)
open Go.Proofs.Ytnkaalapjlmmiaa.WireR Go.Proofs.Ytnkaalapjlmmiaa.WireR2 Go.Proofs.Ytnkaalapjlmmiaa.WireR3
open Go.Proofs.Ytnkaalapjlmmiaa.WireT
set_option linter.unusedSimpArgs false
set_option linter.unusedVariables false
/-- 32 bytes that are read. -/
def digestD (d : List Int) : List Int × Nat × Int := if d.length < 32 then (List.replicate 32 0, 0, 40) else (d.take 32, 32, 0)
/-- Bytes as an array's cells. -/
def c8 (l : List Int) : List Value := l.map (Value.int .u8)
theorem c8_length (l : List Int) : (c8 l).length = l.length := by simp [c8]
theorem c8_one (l : List Int) : ∀ v ∈ c8 l, v.oneCell' = true := by
  intro v hv
  simp only [c8, List.mem_map] at hv
  obtain ⟨x, _, rfl⟩ := hv
  rfl
theorem zero51 : (Try.prog.info? 51).map (fun i => (i.zero, i.size)) = some (some (.agg (c8 (List.replicate 32 0)).toArray), 32) := by kernel_rfl
theorem size51 : (Try.prog.info? 51).map (·.size) = some 32 := by kernel_rfl
section
variable {P : Program} {ops : Array Oper} {rest : List Oper} {o : Oper} {a : Act} {Q : Exit → Act → World → Prop} {W : World}
theorem alloc_ev (hgd : o.guard = none) {T : TypeId} (ho : o.op = .alloc T) {z : Value} {n : Nat} (hz : (P.info? T).map (fun i => (i.zero, i.size)) = some (some z, n)) {vs : List Value} (hv : z.cells.toList = vs)
    (h : ∀ g, g = W.heap.size → ∀ w1, w1.heap[g]? = some (.cells vs.toArray T (0, 0)) → Below W.heap.size W w1 → wpList P ops Q rest (a.put o.dst (.pointer (some ⟨g, 0, none⟩))) w1) : wpList P ops Q (o :: rest) a W := by
  refine wpList_plain hgd fun K hK => ?_
  unfold Oper.wp
  rw [LOwn.run_alloc_op ho hz hv]
  exact hK _ _ (h _ rfl _ (blk_new W _) (below_alloc (Below.refl _ _) _))
end
theorem grown_setRow (w : World) (g : Nat) (cs : Array Value) : w.grownBy (w.setRow g cs) (some g) :=
  ⟨rfl, rfl, rfl, by simp [World.setRow], fun k _ hne => by simp only [World.setRow, Array.getElem?_modify]; rw [if_neg (fun e => hne (by rw [e]))]⟩
theorem rd_low {base B : Nat} {ok : Nat → Prop} {w w1 : World} {r : Nat} {A : Option Addr} {cap : Nat} {l : List Int} {at_ : Nat} {e : Int} (h : RdIs base ok w r A cap l at_ e) (hb : Below B w w1) (hr : r < B) (ho : ∀ k, ok k → k < B) : RdIs base ok w1 r A cap l at_ e :=
  ⟨(hb.block r hr).trans h.1, h.2.1, h.2.2.1, Kd.R_step h.2.2.2 (fun k hk _ => hb.block k (ho k hk))⟩
theorem grown_low {B : Nat} {w w1 : World} (hb : Below B w w1) (hB : ∀ k, k < w.heap.size → k < B ∨ False) (row : Option Nat) : w.grownBy w1 row := ⟨hb.os, hb.tape, hb.output, hb.size, fun k hk _ => hb.block k (by rcases hB k hk with h | h; exact h; exact h.elim)⟩
theorem src_is {w : World} {A : Option Addr} {l : List Int} (h : Kd.C (Kd.int .u8) w A 32 l) : 0 < (c8 l).length → ∃ ad, A = some ad ∧ ∀ j v, (c8 l)[j]? = some v → w.cell? (ad.add j) = some v := by
  intro h0
  obtain ⟨h1, h2, h3⟩ := h
  obtain ⟨ad, e, h4⟩ := h3 (by omega)
  refine ⟨ad, e, fun j v hv => ?_⟩
  simp only [c8, List.getElem?_map, Option.map_eq_some_iff] at hv
  obtain ⟨x, hx, rfl⟩ := hv
  obtain ⟨c, hc, hK, hcell⟩ := h4 j x hx
  have hK2 : c = [.int .u8 x] := hK
  subst hK2
  have := hcell 0 _ rfl
  rwa [show j * (Kd.int .u8).sz + 0 = j from by show j * 1 + 0 = j; omega] at this
theorem grown_lowW {B : Nat} {w W w1 : World} {r : Nat} (hg : w.grownBy W (some r)) (hb : Below B W w1) (hB : w.heap.size ≤ B) : w.grownBy w1 (some r) :=
  ⟨hb.os.trans hg.os, hb.tape.trans hg.tape, hb.output.trans hg.output, Nat.le_trans hg.size hb.size, fun k hk hne => (hb.block k (by omega)).trans (hg.block k hk hne)⟩
/-- 32 bytes are answered. -/
def DigIs (base : Nat) (ok : Nat → Prop) (r : Nat) (A : Option Addr) (cap : Nat) (l : List Int) (at_ : Nat) (x : List Int × Nat × Int) (w : World) (y : Ending) (w' : World) : Prop :=
  y = .returned (.agg (c8 x.1).toArray) ∧ RdIs base ok w' r A cap l (at_ + x.2.1) x.2.2 ∧ w.grownBy w' (some r)
theorem dig_mk {base : Nat} {ok : Nat → Prop} {r : Nat} {A : Option Addr} {cap : Nat} {l : List Int} {at_ : Nat} {w W : World} {Z : List Value} {zs : List Int} {e : Int} (hZ : Z = c8 zs) (hr : RdIs base ok W r A cap l at_ e) (hg : w.grownBy W (some r)) : DigIs base ok r A cap l at_ (zs, 0, e) w (.returned (.agg Z.toArray)) W := by
  subst hZ
  exact ⟨rfl, hr, hg⟩
set_option maxHeartbeats 4000000 in
set_option maxRecDepth 100000 in
theorem digest_nil (w : World) : Calls Try.prog 34 #[.pointer none] w fun y w' => y = .returned (.agg (c8 (List.replicate 32 0)).toArray) ∧ Below w.heap.size w w' := by
  obtain ⟨Z, hZ⟩ : ∃ Z, Z = c8 (List.replicate 32 0) := ⟨_, rfl⟩
  have hzl : Z.length = 32 := by rw [hZ, c8_length, List.length_replicate]
  have hz1 : ∀ v ∈ Z, v.oneCell' = true := by rw [hZ]; exact c8_one _
  have hzz := zero51
  rw [← hZ] at hzz
  have HZ := Lib.hid hzz
  have HZL := Lib.hid hzl
  have HZ1 := Lib.hid hz1
  have HZe := Lib.hid hZ
  clear hZ hzl hz1 hzz
  rw [← HZe.out]
  have HB := Lib.hid (Below.refl w.heap.size w)
  go_enter Try.func34, Try.ntmps34
  go_wp2_with (first | ((with_reducible refine gate_dst (N := 2) rfl ?_); refine alloc_ev rfl (T := 51) rfl HZ.out (vs := Z) (by simp [Value.cells]) ?_; intro g2 hg w1 hbox hb; have H2 := Lib.hid hbox; have hG2 := Lib.hid (Nat.le_trans HB.out.size (Nat.le_of_eq hg.symm)); have hb_ := below_step HB.out hb; clear HB; have HB := Lib.hid hb_; clear hb_ hb; clear hbox hg) | ((with_reducible refine gate_dst (N := 3) rfl ?_); refine alloc_ev rfl (T := 51) rfl HZ.out (vs := Z) (by simp [Value.cells]) ?_; intro g3 hg w1 hbox hb; have H3 := Lib.hid hbox; have hG3 := Lib.hid (Nat.le_trans HB.out.size (Nat.le_of_eq hg.symm)); have h23 := Lib.hid (Nat.lt_of_lt_of_le (blk_lt H2.out) (Nat.le_of_eq hg.symm)); have h2_ := blk_below H2.out hb; clear H2; have H2 := Lib.hid h2_; have hb_ := below_step HB.out hb; clear HB; have HB := Lib.hid hb_; clear hb_ hb; clear hbox hg h2_) | ((with_reducible go_at_call 39); go_must (refine (off_nil _).mono ?_; rintro e w' ⟨rfl, rfl⟩)) | (refine wpList_load_row rfl 51 (.tmp 3) rfl g3 rfl 51 Z.toArray (0, 0) _ H3.out Try.underlying51 rfl (by rw [size51]; simp [HZL.out]) ?_) | (refine wpList_store_row rfl 51 (.tmp 2) _ rfl g2 Z.toArray rfl rfl 51 Z.toArray H2.out (by rw [size51]; simp [HZL.out]) rfl (by simpa using HZ1.out) ?_))
  refine bodyPost_ret (results_cell_row rfl _ _ g2 51 Z.toArray (0, 0) _ rfl (setRow_heap _ g2 _ _ _ _ H2.out) Try.underlying51 rfl (by rw [size51]; simp [HZL.out])) rfl ⟨rfl, Below.grown HB.out (grown_setRow _ _ _) HB.out.size (fun k hk => by cases hk; exact hG2.out)⟩
set_option maxHeartbeats 4000000 in
set_option maxRecDepth 100000 in
theorem digest_off (r : Nat) (x : Int) (w : World) (h2 : w.cell? ⟨r, 2, none⟩ = some (.int .i64 x)) (hx : (x != 0) = true) : Calls Try.prog 34 #[.pointer (some ⟨r, 0, none⟩)] w fun y w' => y = .returned (.agg (c8 (List.replicate 32 0)).toArray) ∧ Below w.heap.size w w' := by
  obtain ⟨Z, hZ⟩ : ∃ Z, Z = c8 (List.replicate 32 0) := ⟨_, rfl⟩
  have hzl : Z.length = 32 := by rw [hZ, c8_length, List.length_replicate]
  have hz1 : ∀ v ∈ Z, v.oneCell' = true := by rw [hZ]; exact c8_one _
  have hzz := zero51
  rw [← hZ] at hzz
  have HZ := Lib.hid hzz
  have HZL := Lib.hid hzl
  have HZ1 := Lib.hid hz1
  have HZe := Lib.hid hZ
  clear hZ hzl hz1 hzz
  rw [← HZe.out]
  have HB := Lib.hid (Below.refl w.heap.size w)
  go_enter Try.func34, Try.ntmps34
  go_wp2_with (first | ((with_reducible refine gate_dst (N := 2) rfl ?_); refine alloc_ev rfl (T := 51) rfl HZ.out (vs := Z) (by simp [Value.cells]) ?_; intro g2 hg w1 hbox hb; have H2 := Lib.hid hbox; have hG2 := Lib.hid (Nat.le_trans HB.out.size (Nat.le_of_eq hg.symm)); have hb_ := below_step HB.out hb; clear HB; have HB := Lib.hid hb_; clear hb_ hb; clear hbox hg) | ((with_reducible refine gate_dst (N := 3) rfl ?_); refine alloc_ev rfl (T := 51) rfl HZ.out (vs := Z) (by simp [Value.cells]) ?_; intro g3 hg w1 hbox hb; have H3 := Lib.hid hbox; have hG3 := Lib.hid (Nat.le_trans HB.out.size (Nat.le_of_eq hg.symm)); have h23 := Lib.hid (Nat.lt_of_lt_of_le (blk_lt H2.out) (Nat.le_of_eq hg.symm)); have h2_ := blk_below H2.out hb; clear H2; have H2 := Lib.hid h2_; have hb_ := below_step HB.out hb; clear HB; have HB := Lib.hid hb_; clear hb_ hb; clear hbox hg h2_) | ((with_reducible go_at_call 39); go_must (refine (off_is true r x _ (cell_below HB.out h2) hx).mono ?_; rintro e w' ⟨rfl, rfl⟩)) | (refine wpList_load_row rfl 51 (.tmp 3) rfl g3 rfl 51 Z.toArray (0, 0) _ H3.out Try.underlying51 rfl (by rw [size51]; simp [HZL.out]) ?_) | (refine wpList_store_row rfl 51 (.tmp 2) _ rfl g2 Z.toArray rfl rfl 51 Z.toArray H2.out (by rw [size51]; simp [HZL.out]) rfl (by simpa using HZ1.out) ?_))
  refine bodyPost_ret (results_cell_row rfl _ _ g2 51 Z.toArray (0, 0) _ rfl (setRow_heap _ g2 _ _ _ _ H2.out) Try.underlying51 rfl (by rw [size51]; simp [HZL.out])) rfl ⟨rfl, Below.grown HB.out (grown_setRow _ _ _) HB.out.size (fun k hk => by cases hk; exact hG2.out)⟩
set_option maxHeartbeats 4000000 in
set_option maxRecDepth 100000 in
theorem digest_read (base : Nat) (ok : Nat → Prop) (r : Nat) (A : Option Addr) (cap : Nat) (l : List Int) (at_ : Nat) (w : World) (h : RdIs base ok w r A cap l at_ 0) (hl : l.length ≤ 1000000000) :
    Calls Try.prog 34 #[.pointer (some ⟨r, 0, none⟩)] w (DigIs base ok r A cap l at_ (digestD (l.drop at_)) w) := by
  have hat := h.2.2.1
  have hrw := h.lt
  have HR := Lib.hid (rd_old h)
  have HB := Lib.hid (Below.refl w.heap.size w)
  have HG := Lib.hid (World.grownBy.refl w (some r))
  clear h
  unfold digestD
  rw [List.length_drop]
  obtain ⟨Z, hZ⟩ : ∃ Z, Z = c8 (List.replicate 32 0) := ⟨_, rfl⟩
  have hzl : Z.length = 32 := by rw [hZ, c8_length, List.length_replicate]
  have hz1 : ∀ v ∈ Z, v.oneCell' = true := by rw [hZ]; exact c8_one _
  have hzz := zero51
  rw [← hZ] at hzz
  have HZ := Lib.hid hzz
  have HZL := Lib.hid hzl
  have HZ1 := Lib.hid hz1
  have HZe := Lib.hid hZ
  clear hZ hzl hz1 hzz
  by_cases q : l.length - at_ < 32
  · rw [if_pos q]
    have hat1 : (l.length : Int) - (at_ : Int) < 32 := by omega
    clear q
    go_enter Try.func34, Try.ntmps34
    go_wp2_with (first | ((with_reducible refine gate_dst (N := 2) rfl ?_); refine alloc_ev rfl (T := 51) rfl HZ.out (vs := Z) (by simp [Value.cells]) ?_; intro g2 hg w1 hbox hb; have H2 := Lib.hid hbox; have hG2 := Lib.hid (Nat.le_trans HG.out.size (Nat.le_of_eq hg.symm)); have hb_ := HR.out.below hb; have hg_ := HG.out.trans (grown_below hb (some r)); clear HR HG; have HR := Lib.hid hb_; have HG := Lib.hid hg_; clear hb_ hg_; have h2c := HR.out.c2; clear hb; clear hbox hg) | ((with_reducible refine gate_dst (N := 3) rfl ?_); refine alloc_ev rfl (T := 51) rfl HZ.out (vs := Z) (by simp [Value.cells]) ?_; intro g3 hg w1 hbox hb; have H3 := Lib.hid hbox; have hG3 := Lib.hid (Nat.le_trans HG.out.size (Nat.le_of_eq hg.symm)); have h23 := Lib.hid (Nat.lt_of_lt_of_le (blk_lt H2.out) (Nat.le_of_eq hg.symm)); have h2_ := blk_below H2.out hb; clear H2; have H2 := Lib.hid h2_; have hb_ := HR.out.below hb; have hg_ := HG.out.trans (grown_below hb (some r)); clear HR HG; have HR := Lib.hid hb_; have HG := Lib.hid hg_; clear hb_ hg_; clear h2c; have h2c := HR.out.c2; clear hb; clear hbox hg h2_) | ((with_reducible go_at_call 39); go_must (refine (off_is false r 0 _ h2c rfl).mono ?_; rintro e w' ⟨rfl, rfl⟩)) | ((with_reducible go_at_call 41); go_must (refine (take_no r A cap l.length at_ 32 _ HR.out.c0 HR.out.c1 hat hl hat1).mono ?_; rintro y w' ⟨rfl, hq⟩; have hg := grown_quiet hq (some r); have h2_ := blk_grown H2.out hg (fun e => by have := hG2.out; simp at e; omega); have h3_ := blk_grown H3.out hg (fun e => by have := hG3.out; simp at e; omega); clear H2 H3; have H2 := Lib.hid h2_; have H3 := Lib.hid h3_; clear h2_ h3_; clear hg; have hr_ := HR.out.quiet hq; have hg_ := HG.out.trans (grown_quiet hq (some r)); clear HR HG hq; have HR := Lib.hid hr_; have HG := Lib.hid hg_; clear hr_ hg_; clear h2c; have h1c := HR.out.c1)) | ((with_reducible go_at_call 40); go_must (refine (fails_ok base _ r A cap l _ at_ _ _ _ HR.out hat).mono ?_; rintro y w' ⟨rfl, hr, hg⟩; have h2_ := blk_grown H2.out hg (fun e => by have := hG2.out; simp at e; omega); have h3_ := blk_grown H3.out hg (fun e => by have := hG3.out; simp at e; omega); clear H2 H3; have H2 := Lib.hid h2_; have H3 := Lib.hid h3_; clear h2_ h3_; have hg_ := HG.out.trans hg; clear HR HG h1c; have HR := Lib.hid hr; have HG := Lib.hid hg_; clear hr hg hg_)) | (refine wpList_load_row rfl 51 (.tmp 3) rfl g3 rfl 51 Z.toArray (0, 0) _ H3.out Try.underlying51 rfl (by rw [size51]; simp [HZL.out]) ?_) | (refine wpList_store_row rfl 51 (.tmp 2) _ rfl g2 Z.toArray rfl rfl 51 Z.toArray H2.out (by rw [size51]; simp [HZL.out]) rfl (by simpa using HZ1.out) ?_))
    have hR2 := (HR.out.other (grown_setRow _ g2 Z.toArray) (fun e => by have := hG2.out; simp at e; omega) (fun k hk e => by have := hG2.out; have := hk.2; simp at e; omega)).mono (ok' := ok) (fun _ hk => hk.1)
    have hG3' := World.grownBy.andThen HG.out (grown_setRow _ g2 Z.toArray) (fun j hj => .inl (by cases hj; exact hG2.out))
    exact bodyPost_ret (results_cell_row rfl _ _ g2 51 Z.toArray (0, 0) _ rfl (setRow_heap _ g2 _ _ _ _ H2.out) Try.underlying51 rfl (by rw [size51]; simp [HZL.out])) rfl (dig_mk HZe.out hR2 hG3')
  · rw [if_neg q]
    have hfit : at_ + 32 ≤ l.length := by omega
    obtain ⟨ds, hds⟩ : ∃ ds, ds = (l.drop at_).take 32 := ⟨_, rfl⟩
    have hdl : (c8 ds).length = 32 := by rw [hds, c8_length, List.length_take, List.length_drop]; omega
    rw [← hds]
    have HDS := Lib.hid hds
    have HDL := Lib.hid hdl
    clear q hds hdl
    go_enter Try.func34, Try.ntmps34
    go_wp2_with (first | ((with_reducible refine gate_dst (N := 2) rfl ?_); refine alloc_ev rfl (T := 51) rfl HZ.out (vs := Z) (by simp [Value.cells]) ?_; intro g2 hg w1 hbox hb; have H2 := Lib.hid hbox; have hG2 := Lib.hid (Nat.le_trans HG.out.size (Nat.le_of_eq hg.symm)); have hb_ := HR.out.below hb; have hg_ := HG.out.trans (grown_below hb (some r)); clear HR HG; have HR := Lib.hid hb_; have HG := Lib.hid hg_; clear hb_ hg_; have h2c := HR.out.c2; clear hb; clear hbox hg) | ((with_reducible refine gate_dst (N := 3) rfl ?_); refine alloc_ev rfl (T := 51) rfl HZ.out (vs := Z) (by simp [Value.cells]) ?_; intro g3 hg w1 hbox hb; have H3 := Lib.hid hbox; have hG3 := Lib.hid (Nat.le_trans HG.out.size (Nat.le_of_eq hg.symm)); have h23 := Lib.hid (Nat.lt_of_lt_of_le (blk_lt H2.out) (Nat.le_of_eq hg.symm)); have h2_ := blk_below H2.out hb; clear H2; have H2 := Lib.hid h2_; have hb_ := HR.out.below hb; have hg_ := HG.out.trans (grown_below hb (some r)); clear HR HG; have HR := Lib.hid hb_; have HG := Lib.hid hg_; clear hb_ hg_; clear h2c; have h2c := HR.out.c2; clear hb; clear hbox hg h2_) | ((with_reducible go_at_call 39); go_must (refine (off_is false r 0 _ h2c rfl).mono ?_; rintro e w' ⟨rfl, rfl⟩)) | ((with_reducible go_at_call 41); go_must (refine (take_ok base _ r A cap l at_ 32 0 _ HR.out hl hfit).mono ?_; rintro y w' ⟨A3, c3, rfl, hc3, hC3, hr, hg⟩; rw [← HDS.out] at hC3; have HC3 := Lib.hid hC3; have h2_ := blk_grown H2.out hg (fun e => by have := hG2.out; simp at e; omega); have h3_ := blk_grown H3.out hg (fun e => by have := hG3.out; simp at e; omega); clear H2 H3; have H2 := Lib.hid h2_; have H3 := Lib.hid h3_; clear h2_ h3_; have hg_ := HG.out.trans hg; clear HR HG h2c; have HR := Lib.hid hr; have HG := Lib.hid hg_; clear hr hg hg_ hC3)) | (refine wpList_copy_splice rfl (.tmp 23) (.tmp 24) 27 27 rfl 5 Try.underlying27 (by kernel_rfl) _ _ _ _ _ _ rfl rfl g3 0 Z 51 H3.out (c8 ds) (by rw [HDL.out]; rfl) (fun h => ⟨rfl, src_is HC3.out h⟩) (by rw [HDL.out, HZL.out]; exact Nat.le_refl _) (c8_one ds) g3 _ (Below.refl _ _) (Nat.le_refl _) ?_; intro w8 h8 hb8; have h8_ := h8.out; rw [show splice Z 0 (c8 ds) = c8 ds from by unfold splice; rw [List.take_zero, List.nil_append, List.drop_of_length_le (by rw [HDL.out, HZL.out]; exact Nat.le_refl _), List.append_nil]] at h8_; have h2_ := (hb8.block g2 h23.out).trans H2.out; have hr_ := rd_low HR.out hb8 (Nat.lt_of_lt_of_le hrw hG3.out) (fun k hk => Nat.lt_of_lt_of_le hk.2 hG3.out); have hg_ := grown_lowW HG.out hb8 hG3.out; clear H2 H3 HR HG h8; have H2 := Lib.hid h2_; have H3 := Lib.hid h8_; have HR := Lib.hid hr_; have HG := Lib.hid hg_; clear h2_ h8_ hr_ hg_ hb8) | (refine wpList_load_row rfl 51 (.tmp 3) rfl g3 rfl 51 (c8 ds).toArray (0, 0) _ H3.out Try.underlying51 rfl (by rw [size51]; simp [HDL.out]) ?_) | (refine wpList_store_row rfl 51 (.tmp 2) _ rfl g2 (c8 ds).toArray rfl rfl 51 Z.toArray H2.out (by rw [size51]; simp [HDL.out]) (by simp [HZL.out, HDL.out]) (by simpa using c8_one ds) ?_))
    have hR2 := (HR.out.other (grown_setRow _ g2 (c8 ds).toArray) (fun e => by have := hG2.out; simp at e; omega) (fun k hk e => by have := hG2.out; have := hk.2; simp at e; omega)).mono (ok' := ok) (fun _ hk => hk.1)
    have hG3' := World.grownBy.andThen HG.out (grown_setRow _ g2 (c8 ds).toArray) (fun j hj => .inl (by cases hj; exact hG2.out))
    exact bodyPost_ret (results_cell_row rfl _ _ g2 51 (c8 ds).toArray (0, 0) _ rfl (setRow_heap _ g2 _ _ _ _ H2.out) Try.underlying51 rfl (by rw [size51]; simp [HDL.out])) rfl ⟨rfl, hR2, hG3'⟩
end Go.Proofs.Ytnkaalapjlmmiaa.WireD
