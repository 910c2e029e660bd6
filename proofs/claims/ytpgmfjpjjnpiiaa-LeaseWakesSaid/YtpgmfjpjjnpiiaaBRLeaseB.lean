/- PROVED: lemmas that the row uses (cut copies of my texts and of the printed ones). No condition beyond what each line says. -/
import Derived.Test.YtpgmfjpjjnpiiaaBRLeaseA
import Derived.Test.YtpgmfjpjjnpiiaaBLeaseO
import Derived.Test.YtpgmfjpjjnpiiaaBLeaseM
import Derived.Test.YtpgmfjpjjnpiiaaBLeaseN
import Derived.Test.YtpgmfjpjjnpiiaaBXA
import Derived.Test.YtpgmfjpjjnpiiaaBLeaseE
import Derived.Test.YtpgmfjpjjnpiiaaBLeaseK
import Derived.Test.YtpgmfjpjjnpiiaaBWAll
import Derived.WalkKit
import Derived.WalkSpells
import Derived.WalkLawsBesides
import Derived.Outline
import Derived.Lib.Hide
import Derived.Deep.LoopGhost
import Derived.Deep.RegionHeld3
import Derived.Deep.DeepCutAuto
import Derived.Deep.RegionLaw
import Derived.BigQuiet
import Derived.Deep.QuietTactic
namespace Go.Proofs.Ytpgmfjpjjnpiiaa.RLeaseB
open Go.RowKit Go.Proofs.Ytpgmfjpjjnpiiaa.PLeaseWakes Go.Proofs.YtpgmfjpjjnpiiaaW.PrintWords Go.Proofs.YtpgmfjpjjnpiiaaW.PrintLast Go.Proofs.YtpgmfjpjjnpiiaaW.PrintMore
attribute [local go_sem] max2_int min2_int max_two min_two max_three min_three max_four min_four
set_option linter.unusedSimpArgs false
set_option linter.unusedVariables false
open Go.Proofs.Ytpgmfjpjjnpiiaa.LeaseA
open Go.Proofs.Ytpgmfjpjjnpiiaa.LeaseB Go.Proofs.Ytpgmfjpjjnpiiaa.LeaseC Go.Proofs.Ytpgmfjpjjnpiiaa.LeaseD Go.Proofs.Ytpgmfjpjjnpiiaa.LeaseH Go.Proofs.Ytpgmfjpjjnpiiaa.LeaseJ Go.Proofs.Ytpgmfjpjjnpiiaa.LeaseK
open Go.Proofs.Ytpgmfjpjjnpiiaa.LeaseL Go.Proofs.Ytpgmfjpjjnpiiaa.LeaseM Go.Proofs.Ytpgmfjpjjnpiiaa.LeaseN Go.Proofs.Ytpgmfjpjjnpiiaa.LeaseG Go.Proofs.Ytpgmfjpjjnpiiaa.LeaseF Go.Proofs.Ytpgmfjpjjnpiiaa.LeaseI
open Go.Proofs.Ytpgmfjpjjnpiiaa.LeaseO
open Go.Proofs.Ytpgmfjpjjnpiiaa.RLeaseA
/-- Posts of a kind to each. -/
def postK (k x y z : Int) (i : Nat) : S38 := ⟨i, k, ⟨x, y, z⟩, z36⟩
def outK (k x y z : Int) (n : Nat) : List S38 := (List.range n).map (postK k x y z)
theorem outK_succ (k x y z : Int) (n : Nat) : outK k x y z (n + 1) = outK k x y z n ++ [postK k x y z n] := by simp [outK, List.range_succ]
theorem outK_len (k x y z : Int) (n : Nat) : (outK k x y z n).length = n := by simp [outK]
set_option maxHeartbeats 4000000 in
set_option maxRecDepth 100000 in
theorem rask_ok (base r : Nat) (ok : Nat → Prop) (v : Value) (s : ES) (w : World) (h : RIs base ok w r v s) :
    Calls Try.prog 55 #[.pointer (some ⟨r, 0, none⟩)] w fun e w' => e = .returned (.agg #[.int .i64 s.me, .int .i64 s.a1, .int .i64 s.a2]) ∧ Below w.heap.size w w' := by
  have HB := Lib.hid (Below.refl w.heap.size w)
  have H := Lib.hid h
  clear h
  go_enter Try.func55, Try.ntmps55
  go_upto_region 1 with (first | ((with_reducible refine gate_dst (N := 2) rfl ?_); refine box_event ?hg (N := 2) ?hd (cs := #[.int .i64 0, .int .i64 0, .int .i64 0]) (t := 34) ?hr ?_; (case hd => rfl); (case hg => rfl); (case hr => first | (go_simp; done) | (go_simp; rfl)); intro gb hg w1 hbox hb; have hg2 := Lib.hid (Nat.le_trans HB.out.size (Nat.le_of_eq hg.symm)); have h_ := H.out.kept hb; clear H; have H := Lib.hid h_; clear h_; have hb_ := below_step HB.out hb; clear HB; have HB := Lib.hid hb_; have hX := Lib.hid hbox; have y0 : World.cell? w1 ⟨gb, 0, none⟩ = some (.int .i64 0) := (blk_cell hbox 0).trans rfl; have yf0 := blk_frozen hbox 0; have y1 : World.cell? w1 ⟨gb, 1, none⟩ = some (.int .i64 0) := (blk_cell hbox 1).trans rfl; have yf1 := blk_frozen hbox 1; have y2 : World.cell? w1 ⟨gb, 2, none⟩ = some (.int .i64 0) := (blk_cell hbox 2).trans rfl; have yf2 := blk_frozen hbox 2; clear hbox hb hb_ hg))
  have c0 := H.out.cells.1
  have c10 := H.out.cells.2.2.2.2.2.2.2.2.2.2.1
  have c11 := H.out.cells.2.2.2.2.2.2.2.2.2.2.2.1
  have n1 : ¬ r = gb := by
    intro e
    have h1 := H.out.1
    rw [e, hX.out] at h1
    injection h1 with h1
    injection h1 with _ h2
    exact absurd h2 (by decide)
  have n2 : ¬ gb = r := fun e => n1 e.symm
  go_region_law (first | fail)
  all_goals
    go_wp2
    refine bodyPost_ret (results_cell_row rfl _ _ gb 34 #[.int .i64 s.me, .int .i64 s.a1, .int .i64 s.a2] (0, 0) _ rfl (blk_drew (blk_put (blk_put (blk_put hX.out 0 _ rfl) 1 _ rfl) 2 _ rfl)) Try.underlying34 rfl (by kernel_rfl)) rfl ?_
    exact ⟨rfl, (below_set (below_set (below_set HB.out hg2.out) hg2.out) hg2.out).drew⟩
set_option maxHeartbeats 4000000 in
set_option maxRecDepth 100000 in
theorem rlead_ok (base r : Nat) (ok : Nat → Prop) (v : Value) (s s1 : ES) (t : Int) (w : World) (h : RIs base ok w r v s) (hs : toldS s t = s1) :
    Calls Try.prog 28 #[.pointer (some ⟨r, 0, none⟩), .int .i64 t] w fun e w' => e = .returned (.tuple #[.int .i64 (if leadsB s1 = true then s1.led else 0), .bool (leadsB s1)]) ∧ RIs base ok w' r v s1 ∧ Below base w w' ∧ Kept w w' (fun k => k = r) := by
  have H := Lib.hid h
  have HS := Lib.hid hs
  clear h hs
  by_cases q : leadsB s1 = true
  · go_enter Try.func28, Try.ntmps28
    go_wp2_with (first | ((with_reducible go_at_call 42); (have q_ := H; clear q_); go_must (refine (rtold_ok base r ok v s t _ H.out).mono ?_; rintro e w1 ⟨rfl, h, hb, hk⟩; have H1 : Hid (RIs base ok w1 r v s1) := Lib.hid (by rw [← HS.out]; exact h); have HB1 := Lib.hid hb; have HK1 := Lib.hid hk; clear H h hb hk)) | ((with_reducible go_at_call 43); (have q_ := H1; clear q_); go_must (refine (rleads_ok base r ok v s1 _ H1.out).mono ?_; rintro e w2 ⟨he, h, hb⟩; rw [q] at he; subst he; have c13 := h.cells.2.2.2.2.2.2.2.2.2.2.2.2.2.1; have H2 := Lib.hid h; have HB2 := Lib.hid hb; clear h hb)))
    go_ret2
    exact ⟨by simp [q], H2.out, HB1.out.trans (HB2.out.mono H1.out.ge), Kept.below HK1.out HB2.out⟩
  · have q : leadsB s1 = false := by simpa using q
    go_enter Try.func28, Try.ntmps28
    go_wp2_with (first | ((with_reducible go_at_call 42); (have q_ := H; clear q_); go_must (refine (rtold_ok base r ok v s t _ H.out).mono ?_; rintro e w1 ⟨rfl, h, hb, hk⟩; have H1 : Hid (RIs base ok w1 r v s1) := Lib.hid (by rw [← HS.out]; exact h); have HB1 := Lib.hid hb; have HK1 := Lib.hid hk; clear H h hb hk)) | ((with_reducible go_at_call 43); (have q_ := H1; clear q_); go_must (refine (rleads_ok base r ok v s1 _ H1.out).mono ?_; rintro e w2 ⟨he, h, hb⟩; rw [q] at he; subst he; have c13 := h.cells.2.2.2.2.2.2.2.2.2.2.2.2.2.1; have H2 := Lib.hid h; have HB2 := Lib.hid hb; clear h hb)))
    go_ret2
    exact ⟨by simp [q], H2.out, HB1.out.trans (HB2.out.mono H1.out.ge), Kept.below HK1.out HB2.out⟩
theorem rvote_put {base : Nat} {ok : Nat → Prop} {w : World} {r : Nat} {v : Value} {s : ES} (h : RIs base ok w r v s) (a b c d : Int) :
    RIs base ok ((((w.setCell ⟨r, 5, none⟩ (.int .i64 a)).setCell ⟨r, 6, none⟩ (.int .i64 b)).setCell ⟨r, 7, none⟩ (.int .i64 c)).setCell ⟨r, 8, none⟩ (.int .i64 d)) r v { s with ve := a, vh := b, vu := c, vs := d } ∧
    Below base w ((((w.setCell ⟨r, 5, none⟩ (.int .i64 a)).setCell ⟨r, 6, none⟩ (.int .i64 b)).setCell ⟨r, 7, none⟩ (.int .i64 c)).setCell ⟨r, 8, none⟩ (.int .i64 d)) ∧
    Kept w ((((w.setCell ⟨r, 5, none⟩ (.int .i64 a)).setCell ⟨r, 6, none⟩ (.int .i64 b)).setCell ⟨r, 7, none⟩ (.int .i64 c)).setCell ⟨r, 8, none⟩ (.int .i64 d)) (fun k => k = r) := by
  have h1 := h.put (s' := { s with ve := a }) 5 (.int .i64 a) rfl rfl
  have h2 := h1.put (s' := { s with ve := a, vh := b }) 6 (.int .i64 b) rfl rfl
  have h3 := h2.put (s' := { s with ve := a, vh := b, vu := c }) 7 (.int .i64 c) rfl rfl
  exact ⟨h3.put 8 (.int .i64 d) rfl rfl, (h.keep 5 _).1.trans ((h1.keep 6 _).1.trans ((h2.keep 7 _).1.trans (h3.keep 8 _).1)), kept_trans (h.keep 5 _).2 (kept_trans (h1.keep 6 _).2 (kept_trans (h2.keep 7 _).2 (h3.keep 8 _).2))⟩
set_option maxHeartbeats 4000000 in
set_option maxRecDepth 100000 in
theorem rfree_ok (base r : Nat) (ok : Nat → Prop) (v : Value) (s s1 : ES) (t x y z r1 r2 r3 r4 : Int) (w : World) (h : RIs base ok w r v s) (hs : toldS s t = s1) (hf : juratref15_Free.f s1.ve s1.vh s1.vu s1.vs s1.now x y z = some (r1, r2, r3, r4)) :
    Calls Try.prog 27 #[.pointer (some ⟨r, 0, none⟩), .int .i64 t, .agg #[.int .i64 x, .int .i64 y, .int .i64 z]] w fun e w' => e = .returned (.tuple #[]) ∧ RIs base ok w' r v { s1 with ve := r1, vh := r2, vu := r3, vs := r4 } ∧ Below base w w' ∧ Kept w w' (fun k => k = r) := by
  have HB := Lib.hid (Below.refl w.heap.size w)
  have H := Lib.hid h
  have HS := Lib.hid hs
  have HF := Lib.hid hf
  have HRL := Lib.hid h.lt
  clear h hs hf
  go_enter Try.func27, Try.ntmps27
  go_upto_region 2 with (first | ((with_reducible refine gate_dst (N := 5) rfl ?_); refine box_event ?hg (N := 5) ?hd (cs := #[.int .i64 x, .int .i64 y, .int .i64 z]) (t := 34) ?hr ?_; (case hd => rfl); (case hg => rfl); (case hr => first | (go_simp; done) | (go_simp; rfl)); intro ga hg w1 hbox hb; have h_ := H.out.kept hb; clear H; have H := Lib.hid h_; clear h_; have hga := Lib.hid (Nat.le_of_eq hg.symm); have hb_ := below_step HB.out hb; clear HB; have HB := Lib.hid hb_; have HG := Lib.hid hbox; clear hbox hb hb_ hg) | ((with_reducible go_at_call 42); (have q_ := H; clear q_); go_must (refine (rtold_ok base r ok v s t _ H.out).mono ?_; rintro e w1 ⟨rfl, h, hb, hk⟩; have H1 : Hid (RIs base ok w1 r v s1) := Lib.hid (by rw [← HS.out]; exact h); have HG1 := Lib.hid ((hk.2 ga (blk_lt HG.out) (Ne.symm (blk_ne H.out.1 HG.out (by decide)))).trans HG.out); have HB1 := Lib.hid hb; have HK1 := Lib.hid hk; clear H HG h hb hk)))
  generalize w1 = w2 at *
  obtain ⟨c0, c1, c2, c3, c4, c5, c6, c7, c8, c9, c10, c11, c12, c13, c14, c15, c16⟩ := H1.out.cells
  clear c0 c1 c2 c3 c9 c10 c11 c12 c13 c14 c15 c16
  have q0 : w2.cell? ⟨ga, 0, none⟩ = some (.int .i64 x) := (blk_cell HG1.out 0).trans rfl
  have q1 : w2.cell? ⟨ga, 1, none⟩ = some (.int .i64 y) := (blk_cell HG1.out 1).trans rfl
  have q2 : w2.cell? ⟨ga, 2, none⟩ = some (.int .i64 z) := (blk_cell HG1.out 2).trans rfl
  go_region_law (first | (go_simp; (with_reducible go_at_call 48); go_must (refine (juratref15_Free.calls s1.ve s1.vh s1.vu s1.vs s1.now x y z r1 r2 r3 r4 _ HF.out).mono ?_; rintro e w3 ⟨rfl, hb⟩; have hb : Below w2.heap.size w2 w3 := ⟨hb.os, hb.tape, hb.output, hb.size, hb.block⟩; have h3 := H1.out.kept hb; have g5 := h3.free 5; have g6 := h3.free 6; have g7 := h3.free 7; have g8 := h3.free 8; obtain ⟨z0, z1, z2, z3, z4, z5, z6, z7, z8, z9, z10, z11, z12, z13, z14, z15, z16⟩ := h3.cells; clear z0 z1 z2 z3 z4 z9 z10 z11 z12 z13 z14 z15 z16; have H3 := Lib.hid h3; have HB3 := Lib.hid hb; clear h3 hb)))
  all_goals
    go_end0
    obtain ⟨p1, p2, p3⟩ := rvote_put H3.out r1 r2 r3 r4
    have hbb : Below base w w3 := by
      have b1 := H1.out.lt
      have b2 := H1.out.2.1
      exact ((HB.out.mono (Nat.le_trans b2 (Nat.le_of_lt HRL.out))).trans HB1.out).trans (HB3.out.mono (by omega))
    have hkk : Kept w w3 (fun k => k = r) := kept_trans (Kept.of_below HB.out _) (Kept.below HK1.out HB3.out)
    exact ⟨rfl, p1, hbb.trans p2, kept_trans hkk p3⟩
set_option maxHeartbeats 4000000 in
set_option maxRecDepth 100000 in
theorem rall_ok (B : Nat) (base r : Nat) (ok : Nat → Prop) (v : Value) (s : ES) (k : Int) (A : Option Addr) (c : Nat) (l0 : List S38) (w : World) (h : RIs base ok w r v s) (hrB : r < B) (hoB : ∀ k, ok k → k < B) (hB : B ≤ w.heap.size) (hR : Kd.R k38 38 w B (fun _ => True) (.slice A l0.length c) l0) (hl : l0.length ≤ 100) (n : Nat) (hn : s.n = n) (hn5 : n ≤ 5) :
    Calls Try.prog 44 #[.pointer (some ⟨r, 0, none⟩), .slice A l0.length c, .int .i64 k] w fun e w' => ∃ A' c', e = .returned (.slice A' (l0 ++ outK k s.me s.a1 s.a2 n).length c') ∧ Kd.R k38 38 w' B (fun _ => True) (.slice A' (l0 ++ outK k s.me s.a1 s.a2 n).length c') (l0 ++ outK k s.me s.a1 s.a2 n) ∧ Below B w w' := by
  have H := Lib.hid h
  have HR := Lib.hid hR
  have HB := Lib.hid (Below.refl B w)
  have HOB := Lib.hid hoB
  have HN := Lib.hid hn
  clear h hR hoB hn
  go_enter Try.func44, Try.ntmps44
  go_upto_region 2 with (fail)
  go_loopw [1, 7] (fun u1 u7 wr => ∃ (i : Nat) (A' : Option Addr) (c' : Nat), u7 = .int .i64 i ∧ i ≤ n ∧ u1 = .slice A' (l0 ++ outK k s.me s.a1 s.a2 i).length c' ∧ Hid (Kd.R k38 38 wr B (fun _ => True) (.slice A' (l0 ++ outK k s.me s.a1 s.a2 i).length c') (l0 ++ outK k s.me s.a1 s.a2 i)) ∧ Hid (Below B w wr)) (fun _ u7 _ => n - (intOf u7).toNat)
  case atStart => exact ⟨0, A, c, rfl, Nat.zero_le _, by simp [outK], Lib.hid (by simpa [outK] using HR.out), HB⟩
  clear HR HB
  obtain ⟨i, A', c', rfl, hi, rfl, HR, HB⟩ := hrel
  have c1 : wr.cell? ⟨r, 1, none⟩ = some (.int .i64 n) := by rw [← HN.out]; exact (RIs.low H.out hrB HOB.out HB.out).cells.2.1
  by_cases hlt : i < n
  · have hlt' : (i : Int) < n := by omega
    obtain ⟨lo, hlo⟩ : ∃ lo_, l0 ++ outK k s.me s.a1 s.a2 i = lo_ := ⟨_, rfl⟩
    have hll : Hid (lo.length = l0.length + i) := Lib.hid (by rw [← hlo, List.length_append, outK_len])
    rw [hlo] at HR ⊢
    go_wp2_with (first | ((with_reducible go_at_call 55); go_must (refine (rask_ok base r ok v s _ (RIs.low H.out hrB HOB.out HB.out)).mono ?_; rintro e w1 ⟨rfl, hb⟩; have hr_ := Kd.R_below HR.out hb; have hb_ := below_then HB.out (Nat.le_trans hB HB.out.size) hb; clear HR HB c1; have HR := Lib.hid hr_; have HB := Lib.hid hb_; clear hr_ hb_ hb)) | ((with_reducible refine gate_builtin (b := .append) (xs := #[.tmp 16, .tmp 22]) rfl ?_); at_builtin; go_must (refine Kd.R_append k38 (w0 := w) B rfl (.tmp 16) (.tmp 22) 45 38 (.agg #[.int .i64 0, .int .i64 0, .int .i64 0, .int .i64 0, .int .i64 0, .int .i64 0, .bool false, .int .i64 0, .int .i64 0]) 72 rfl Try.underlying45 info38 rfl (by decide) (by decide) (.slice A' lo.length c') lo (postK k s.me s.a1 s.a2 i) [.int .i64 (i : Int), .int .i64 k, .int .i64 s.me, .int .i64 s.a1, .int .i64 s.a2, .int .i64 0, .bool false, .int .i64 0, .int .i64 0] (fun _ => True) (fun _ => False) rfl rfl ?aP (fun _ hk => hk.elim) (fun _ _ => trivial) HR.out HB.out ?aB ?aL ?_; (case aP => exact k38_mkM _ _ _ (postK k s.me s.a1 s.a2 i)); (case aB => exact Nat.le_trans hB HB.out.size); (case aL => have := hll.out; omega); intro v8 w8 ho hb hg hat; obtain ⟨A8, c8, rfl⟩ := Kd.R_slice ho; have HR8_ := Lib.hid ho; clear HR HB; have HR := HR8_; have HB := Lib.hid hb; clear HR8_ ho hb hg hat)))
    have hfin : lo ++ [postK k s.me s.a1 s.a2 i] = l0 ++ outK k s.me s.a1 s.a2 (i + 1) := by rw [← hlo, outK_succ, List.append_assoc]
    have hR9 := HR
    rw [hfin] at hR9
    refine ⟨⟨i + 1, A8, c8, by go_num, by omega, by rw [← hfin]; simp, hR9, HB⟩, by simp [intOf]; omega⟩
  · have hlt' : (n : Int) ≤ i := by omega
    obtain rfl : i = n := by omega
    go_wp2
    go_ret
    exact ⟨A', c', rfl, HR.out, HB.out⟩
set_option maxHeartbeats 4000000 in
set_option maxRecDepth 100000 in
theorem begins_ok (base r : Nat) (ok : Nat → Prop) (v : Value) (s : ES) (e : Int) (w : World) (h : RIs base ok w r v s) :
    Calls Try.prog 45 #[.pointer (some ⟨r, 0, none⟩), .int .i64 e] w fun x w' => x = .returned (.tuple #[]) ∧ RIs base ok w' r (.slice none 0 0) (asksS s e) ∧ Stp base r w w' := by
  obtain ⟨c0, c1, c2, c3, c4, c5, c6, c7, c8, c9, c10, c11, c12, c13, c14, c15, c16⟩ := h.cells
  have f9 := h.free 9
  have f10 := h.free 10
  have f11 := h.free 11
  have f12 := h.free 12
  have H := Lib.hid h
  clear h c0 c1 c2 c3 c5 c6 c7 c8 c13 c14 c15 c16
  go_enter Try.func45, Try.ntmps45
  go_wp2
  go_end0
  have h1 := H.out.put (s' := { s with opn := true }) 9 (.bool true) rfl rfl
  have h2 := h1.put (s' := { s with opn := true, a1 := e }) 10 (.int .i64 e) rfl rfl
  have h3 := h2.put (s' := { s with opn := true, a1 := e, a2 := s.now }) 11 (.int .i64 s.now) rfl rfl
  have h4 : ((((w.setCell ⟨r, 9, none⟩ (.bool true)).setCell ⟨r, 10, none⟩ (.int .i64 e)).setCell ⟨r, 11, none⟩ (.int .i64 s.now)).setCell ⟨r, 12, none⟩ (.slice none 0 0)).heap[r]? = some (.cells (cellsR (asksS s e) (.slice none 0 0)) 63 (0, 0)) := blk_put h3.1 12 (.slice none 0 0) rfl
  exact ⟨rfl, RIs.to h3 h4 rfl, h3.stput (h2.stput (h1.stput (H.out.stput (Stp.refl base r w) 9 (.bool true)) 10 (.int .i64 e)) 11 (.int .i64 s.now)) 12 (.slice none 0 0)⟩
end Go.Proofs.Ytpgmfjpjjnpiiaa.RLeaseB
