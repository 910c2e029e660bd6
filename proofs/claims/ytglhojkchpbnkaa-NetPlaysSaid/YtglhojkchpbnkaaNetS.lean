/- PROVED: the reference's Take; its methods at an index that is none. No condition beyond what each line says. -/
import Derived.Test.YtglhojkchpbnkaaNetR
import Derived.WalkKit
import Derived.WalkSpells
import Derived.WalkLawsBesides
import Derived.Outline
import Derived.Lib.Hide
import Derived.Deep.LoopGhost
import Derived.Deep.RegionHeld3
import Derived.Deep.DeepCutAuto
import Derived.Deep.RegionLaw
import Derived.BigQuiet
import Derived.Deep.QuietTactic
namespace Go.Proofs.Ytglhojkchpbnkaa.NetS
open Go.RowKit Go.Proofs.Ytglhojkchpbnkaa.PNetPlays Go.Proofs.Ytglhojkchpbnkaa.Net2 Go.Proofs.Ytglhojkchpbnkaa.NetTake Go.Proofs.YtglhojkchpbnkaaW.PrintWords Go.Proofs.YtglhojkchpbnkaaW.PrintLast Go.Proofs.YtglhojkchpbnkaaW.PrintMore
open Go.Proofs.Ytglhojkchpbnkaa.NetAwake (world_gen)
open Go.Proofs.Ytglhojkchpbnkaa.Net (own_is info29 k29_types at_in len_is look_fin)
set_option linter.unusedSimpArgs false
set_option linter.unusedVariables false
open Go.Proofs.Ytglhojkchpbnkaa.NetA Go.Proofs.Ytglhojkchpbnkaa.NetB Go.Proofs.Ytglhojkchpbnkaa.NetR
set_option maxHeartbeats 400000 in
theorem rtwice_bad (r n cap : Nat) (ao : Option Addr) (i : Int) (hi : ¬ (0 ≤ i ∧ i < n)) (w : World) (h : w.cell? ⟨r, 0, none⟩ = some (.slice ao n cap)) : Calls Try.prog 24 #[.pointer (some ⟨r, 0, none⟩), .int .i64 i] w fun e w' => e = .returned (.int .i64 1) ∧ w = w' := by
  go_enter Try.func24, Try.ntmps24
  go_wp2_with (first | ((with_reducible go_at_call 30); go_must (refine (is_bad r n cap ao i hi _ h).mono ?_; rintro e w' ⟨rfl, rfl⟩)))
  go_ret
  exact ⟨rfl, rfl⟩
set_option maxHeartbeats 400000 in
theorem rspoil_bad (r n cap : Nat) (ao : Option Addr) (i j m : Int) (hi : ¬ (0 ≤ i ∧ i < n)) (w : World) (h : w.cell? ⟨r, 0, none⟩ = some (.slice ao n cap)) : Calls Try.prog 25 #[.pointer (some ⟨r, 0, none⟩), .int .i64 i, .int .i64 j, .int .u8 m] w fun e w' => e = .returned (.int .i64 1) ∧ w = w' := by
  go_enter Try.func25, Try.ntmps25
  go_wp2_with (first | ((with_reducible go_at_call 30); go_must (refine (is_bad r n cap ao i hi _ h).mono ?_; rintro e w' ⟨rfl, rfl⟩)))
  go_ret
  exact ⟨rfl, rfl⟩
set_option maxHeartbeats 4000000 in
set_option maxRecDepth 100000 in
theorem rspoil_far (base r k : Nat) (ok : Nat → Prop) (ao : Option Addr) (cap : Nat) (ms : List S29) (p : S29) (j m : Int) (w : World) (hN : RefIs base ok w r (.slice ao ms.length cap) ms) (hp : ms[k]? = some p) (hj : ¬ (0 ≤ j ∧ j < p.f2.length)) :
    Calls Try.prog 25 #[.pointer (some ⟨r, 0, none⟩), .int .i64 k, .int .i64 j, .int .u8 m] w fun e w' => e = .returned (.int .i64 1) ∧ w = w' := by
  have hk : k < ms.length := (List.getElem?_eq_some_iff.1 hp).1
  obtain ⟨b, off, A2, c2, _, rfl, hE, hc2, hC2⟩ := hN.at_ hp
  have hC1 := hN.cell
  clear hN hp hC2
  by_cases q : j < 0
  · go_enter Try.func25, Try.ntmps25
    go_wp2_with (first | ((with_reducible go_at_call 30); go_must (refine (is_in r ms.length cap _ k hk _ hC1).mono ?_; rintro e w' ⟨rfl, rfl⟩)))
    go_ret
    exact ⟨rfl, rfl⟩
  · have q0 : 0 ≤ j := by omega
    have q1 : (p.f2.length : Int) ≤ j := by omega
    have q2 : ¬ j < (p.f2.length : Int) := by omega
    go_enter Try.func25, Try.ntmps25
    go_wp2_with (first | ((with_reducible go_at_call 30); go_must (refine (is_in r ms.length cap _ k hk _ hC1).mono ?_; rintro e w' ⟨rfl, rfl⟩)))
    go_ret
    exact ⟨rfl, rfl⟩
set_option maxHeartbeats 400000 in
theorem rlook_bad (r n cap : Nat) (ao : Option Addr) (i : Int) (hi : ¬ (0 ≤ i ∧ i < n)) (w : World) (h : w.cell? ⟨r, 0, none⟩ = some (.slice ao n cap)) : Calls Try.prog 22 #[.pointer (some ⟨r, 0, none⟩), .int .i64 i] w fun e w' => e = .returned (.tuple #[.agg #[.int .i64 0, .int .i64 0, .slice none 0 0], .int .i64 1]) ∧ Below w.heap.size w w' := by
  have hC := Lib.hid h
  clear h
  go_enter Try.func22, Try.ntmps22
  go_wp2_with (first | ((with_reducible refine gate_dst (N := 4) rfl ?_); refine box_event ?hg (N := 4) ?hd (cs := #[.int .i64 0, .int .i64 0, .slice none 0 0]) (t := 29) ?hr ?_; (case hd => rfl); (case hg => rfl); (case hr => first | (go_simp; done) | (go_simp; rfl)); intro gb hg w1 hbox hb; have hX := Lib.hid hbox; have hY0 : w1.cell? ⟨gb, 0, none⟩ = some (.int .i64 0) := (blk_cell hbox 0).trans rfl; have hY1 : w1.cell? ⟨gb, 1, none⟩ = some (.int .i64 0) := (blk_cell hbox 1).trans rfl; have hY2 : w1.cell? ⟨gb, 2, none⟩ = some (.slice none 0 0) := (blk_cell hbox 2).trans rfl; have hZ0 := blk_frozen hbox 0; have hZ1 := blk_frozen hbox 1; have hZ2 := blk_frozen hbox 2; have hC_ := cell_below hb hC.out; have HC1 := Lib.hid hC_; have hB1 := Lib.hid hb; have hg1 := Lib.hid hg; clear hbox hb hg hC_) | ((with_reducible go_at_call 30); go_must (refine (is_bad r n cap ao i hi _ HC1.out).mono ?_; rintro e w' ⟨rfl, rfl⟩)))
  refine bodyPost_ret (results_ct rfl _ _ gb 29 #[.int .i64 0, .int .i64 0, .slice none 0 0] (0, 0) _ rfl (blk_put (blk_put (blk_put hX.out 0 _ rfl) 1 _ rfl) 2 _ rfl) Try.underlying29 rfl (by kernel_rfl)) rfl ?_
  have hg2 := hg1.out
  exact ⟨rfl, below_set (below_set (below_set hB1.out (by omega)) (by omega)) (by omega)⟩
set_option maxHeartbeats 400000 in
theorem rtake_bad (r n cap : Nat) (ao : Option Addr) (i : Int) (hi : ¬ (0 ≤ i ∧ i < n)) (w : World) (h : w.cell? ⟨r, 0, none⟩ = some (.slice ao n cap)) : Calls Try.prog 23 #[.pointer (some ⟨r, 0, none⟩), .int .i64 i] w fun e w' => e = .returned (.tuple #[.agg #[.int .i64 0, .int .i64 0, .slice none 0 0], .int .i64 1]) ∧ Below w.heap.size w w' := by
  have hC := Lib.hid h
  clear h
  go_enter Try.func23, Try.ntmps23
  go_wp2_with (first | ((with_reducible refine gate_dst (N := 4) rfl ?_); refine box_event ?hg (N := 4) ?hd (cs := #[.int .i64 0, .int .i64 0, .slice none 0 0]) (t := 29) ?hr ?_; (case hd => rfl); (case hg => rfl); (case hr => first | (go_simp; done) | (go_simp; rfl)); intro gb hg w1 hbox hb; have hX := Lib.hid hbox; have hY0 : w1.cell? ⟨gb, 0, none⟩ = some (.int .i64 0) := (blk_cell hbox 0).trans rfl; have hY1 : w1.cell? ⟨gb, 1, none⟩ = some (.int .i64 0) := (blk_cell hbox 1).trans rfl; have hY2 : w1.cell? ⟨gb, 2, none⟩ = some (.slice none 0 0) := (blk_cell hbox 2).trans rfl; have hZ0 := blk_frozen hbox 0; have hZ1 := blk_frozen hbox 1; have hZ2 := blk_frozen hbox 2; have hC_ := cell_below hb hC.out; have HC1 := Lib.hid hC_; have hB1 := Lib.hid hb; have hg1 := Lib.hid hg; clear hbox hb hg hC_) | ((with_reducible go_at_call 30); go_must (refine (is_bad r n cap ao i hi _ HC1.out).mono ?_; rintro e w' ⟨rfl, rfl⟩)))
  refine bodyPost_ret (results_ct rfl _ _ gb 29 #[.int .i64 0, .int .i64 0, .slice none 0 0] (0, 0) _ rfl (blk_put (blk_put (blk_put hX.out 0 _ rfl) 1 _ rfl) 2 _ rfl) Try.underlying29 rfl (by kernel_rfl)) rfl ?_
  have hg2 := hg1.out
  exact ⟨rfl, below_set (below_set (below_set hB1.out (by omega)) (by omega)) (by omega)⟩
theorem rows_take {α : Type} {R : α → List Value → Prop} {size n m : Nat} {w : World} {A : Option Addr} {ps : List α} (h : ReadsRow R size w A n ps) (hm : m ≤ n) : ReadsRow R size w A m (ps.take m) := by
  obtain ⟨h1, h2, h3⟩ := h
  refine ⟨by rw [List.length_take]; omega, by omega, fun hp => ?_⟩
  obtain ⟨ad, e, hc⟩ := h3 (by omega)
  refine ⟨ad, e, fun j p hj => hc j p ?_⟩
  rw [List.getElem?_take] at hj
  split at hj
  · exact hj
  · cases hj
theorem add_mk (g o j : Nat) : (⟨g, o, none⟩ : Addr).add j = ⟨g, o + j, none⟩ := by unfold Addr.add; split <;> simp_all
theorem rows_drop {α : Type} {R : α → List Value → Prop} {size n m m' g : Nat} {w : World} {A : Option Addr} {ps : List α} (h : ReadsRow R size w (some ⟨g, 0, none⟩) n ps) (hm : m' = n - m) (hA : 0 < m' → A = some ⟨g, m * size, none⟩) : ReadsRow R size w A m' (ps.drop m) := by
  obtain ⟨h1, h2, h3⟩ := h
  refine ⟨by rw [List.length_drop]; omega, by omega, fun hp => ?_⟩
  obtain ⟨ad, e, hc⟩ := h3 (by omega)
  injection e with e
  subst e
  refine ⟨_, hA hp, fun j p hj => ?_⟩
  rw [List.getElem?_drop] at hj
  obtain ⟨c, hl, hR, hcell⟩ := hc (m + j) p hj
  refine ⟨c, hl, hR, fun i u hu => ?_⟩
  have := hcell i u hu
  rw [add_mk, Nat.zero_add] at this
  rw [add_mk, ← this, Nat.add_mul, Nat.add_assoc]
theorem rows_of {f : Nat → Nat} {base n cap g : Nat} {ok okp : Nat → Prop} {w : World} {ms : List S29} (h : (Kd.tag f k29).R 29 w base ok (.slice (some ⟨g, 0, none⟩) n cap) ms.zipIdx) (ho : ∀ k, ok k → okp k) : ReadsRow ((Kd.tag f k29).M w base okp) 3 w (some ⟨g, 0, none⟩) ms.zipIdx.length ms.zipIdx := by
  obtain ⟨h0, inner, hown, hr⟩ := h
  obtain ⟨A, c, e, hR⟩ := own_reads_row hown (Reps.imp_ hr (fun _ _ hm => (Kd.tag f k29).M_mono (fun k hk => ho k hk.1) hm)) rfl
  simp only [Value.slice.injEq] at e
  obtain ⟨rfl, _, _⟩ := e
  exact hR
theorem hat_ne {v v1 : Value} {W : World} (hv : v.ownBlock = none) (hat : v1.ownBlock = v.ownBlock ∨ ∃ b, v1.ownBlock = some b ∧ W.heap.size ≤ b) {q : Nat} (hq : q < W.heap.size) : some q ≠ v1.ownBlock := by
  intro e
  rcases hat with h | ⟨b, h, hb⟩
  · rw [h, hv] at e; cases e
  · rw [h] at e; injection e with e; omega
theorem below_none {w w1 : World} {row : Option Nat} (h : w.grownBy w1 row) (hn : row = none) : Below w.heap.size w w1 := ⟨h.os, h.tape, h.output, h.size, fun k hk => h.block k hk (by rw [hn]; simp)⟩
theorem rtake_fin {base r g4 k : Nat} {okl : Nat → Prop} {w w5 w7 w8 : World} {v v7 v8 : Value} {ms : List S29} {f : Nat → Nat} (hN : RefIs base okl w r v ms) (hB5 : Below w.heap.size w w5) (hg7 : w5.grownBy w7 none) (hat7 : v7.ownBlock = none ∨ ∃ b, v7.ownBlock = some b ∧ w5.heap.size ≤ b) (hg8 : w7.grownBy w8 v7.ownBlock)
    (hR : (Kd.tag f k29).R 29 w8 base (fun q => (okl q ∨ w.heap.size ≤ q) ∧ q ≠ g4) v8 (ms.zipIdx.eraseIdx k)) (hg4 : w.heap.size ≤ g4) (h4 : w8.heap[g4]? = some (.cells #[.int .i64 0, .int .i64 0, .slice none 0 0] 29 (0, 0))) (h8 : w8.heap[r]? = some (.cells #[v] 48 (0, 0))) (x y z : Value) (WF : World)
    (hWF : WF = ((((w8.setCell ⟨r, 0, none⟩ v8).setCell ⟨g4, 0, none⟩ x).setCell ⟨g4, 1, none⟩ y).setCell ⟨g4, 2, none⟩ z)) :
    RefIs base (fun q => okl q ∨ w.heap.size ≤ q) WF r v8 (ms.eraseIdx k) ∧ Below base w WF ∧ Kept w WF (fun q => q = r) ∧ WF.heap[g4]? = some (.cells #[x, y, z] 29 (0, 0)) := by
  have hr4 : r ≠ g4 := blk_ne h8 h4 (by decide)
  have hbr := hN.2.1
  have hrl := hN.lt
  have hmv8 : ∀ q, q < w.heap.size → w8.heap[q]? = w.heap[q]? := by
    intro q hq
    have h5 : q < w5.heap.size := Nat.lt_of_lt_of_le hq hB5.size
    rw [hg8.block q (Nat.lt_of_lt_of_le h5 hg7.size) (by
      intro e
      rcases hat7 with h | ⟨b, h, hb⟩
      · rw [h] at e; cases e
      · rw [h] at e; injection e with e; omega), hg7.block q h5 (by simp), hB5.block q hq]
  have hmv : ∀ q, q < w.heap.size → q ≠ r → WF.heap[q]? = w.heap[q]? := by
    intro q hq h2
    have h3 : q ≠ g4 := by omega
    rw [hWF, Below.heap_setCell _ ⟨g4, 2, none⟩ _ q h3, Below.heap_setCell _ ⟨g4, 1, none⟩ _ q h3, Below.heap_setCell _ ⟨g4, 0, none⟩ _ q h3, Below.heap_setCell _ ⟨r, 0, none⟩ _ q h2]
    exact hmv8 q hq
  have hB8 : Below base w w8 := ⟨hg8.os.trans (hg7.os.trans hB5.os), hg8.tape.trans (hg7.tape.trans hB5.tape), hg8.output.trans (hg7.output.trans hB5.output), Nat.le_trans hB5.size (Nat.le_trans hg7.size hg8.size), fun q hq => hmv8 q (by omega)⟩
  have hBF : Below base w WF := by
    rw [hWF]
    exact (((hB8.setCell hbr _).setCell (by show base ≤ g4; omega) _).setCell (by show base ≤ g4; omega) _).setCell (by show base ≤ g4; omega) _
  refine ⟨⟨?_, hbr, ?_⟩, hBF, ⟨hBF.size, fun q hq hn => hmv q hq hn⟩, ?_⟩
  · rw [hWF]
    exact blk_far (p := ⟨g4, 2, none⟩) (blk_far (p := ⟨g4, 1, none⟩) (blk_far (p := ⟨g4, 0, none⟩) (blk_put h8 0 _ rfl) hr4 _) hr4 _) hr4 _
  · have hS := Kd.S_erase hR
    rw [hWF]
    exact Kd.S_mono (Kd.S_far (p := ⟨g4, 2, none⟩) (Kd.S_far (p := ⟨g4, 1, none⟩) (Kd.S_far (p := ⟨g4, 0, none⟩) (Kd.S_set hS h8 k29_t48 0 v8) (fun _ hk => hk.2) x) (fun _ hk => hk.2) y) (fun _ hk => hk.2) z) (fun _ hk => hk.1)
  · rw [hWF]
    exact blk_put (blk_put (blk_put (blk_far (p := ⟨r, 0, none⟩) h4 (Ne.symm hr4) _) 0 x rfl) 1 y rfl) 2 z rfl
set_option maxHeartbeats 4000000 in
set_option maxRecDepth 100000 in
theorem rtake_ok (base r k : Nat) (okl : Nat → Prop) (ao : Option Addr) (cap : Nat) (ms : List S29) (p : S29) (w : World) (hN : RefIs base okl w r (.slice ao ms.length cap) ms) (hp : ms[k]? = some p) (hlen : ms.length ≤ 512) :
    Calls Try.prog 23 #[.pointer (some ⟨r, 0, none⟩), .int .i64 k] w fun e w' => ∃ A2 c2, e = .returned (.tuple #[.agg #[.int .i64 p.f0, .int .i64 p.f1, .slice A2 p.f2.length c2], .int .i64 0]) ∧ Kd.R (Kd.int .u8) 5 w' base okl (.slice A2 p.f2.length c2) p.f2 ∧ (∃ v', RefIs base (fun q => okl q ∨ w.heap.size ≤ q) w' r v' (ms.eraseIdx k)) ∧ Below base w w' ∧ Kept w w' (fun q => q = r) := by
  have hk : k < ms.length := (List.getElem?_eq_some_iff.1 hp).1
  obtain ⟨g, cp, hv, hbg, hgl, _⟩ := Kd.S_form hN.2.2 (by omega)
  simp only [Value.slice.injEq] at hv
  obtain ⟨rfl, hx_, rfl⟩ := hv
  clear hx_
  have hcap : ms.length ≤ cap := (Kd.S_reads' hN.2.2).2.1
  have hmx : cap ≤ 9223372036854775807 := by
    obtain ⟨inner, _, hv⟩ := Kd.S_own hN.2.2
    rcases hv with ⟨hv, _⟩ | ⟨_, cap', cur, hv, _, _, _, hmax, _, _⟩
    · cases hv
    · simp only [Value.slice.injEq] at hv
      rw [hv.2.2]
      exact hmax
  obtain ⟨oki, c, hcl, hM, hcell, hoki, _⟩ := Kd.S_lend hN.2.2 z29 (k : Int) (by omega) (by omega)
  have hpe : ms.getD (k : Int).toNat z29 = p := by simp [List.getD, hp]
  rw [hpe] at hM
  obtain ⟨v2, rfl, hR⟩ := k29_openM hM
  obtain ⟨A2, c2, rfl⟩ := Kd.R_slice hR
  have hE : w.cell? ⟨g, k * 3, none⟩ = some (.int .i64 p.f0) ∧ w.cell? ⟨g, k * 3 + 1, none⟩ = some (.int .i64 p.f1) ∧ w.cell? ⟨g, k * 3 + 2, none⟩ = some (.slice A2 p.f2.length c2) := ⟨hcell 0 _ rfl, hcell 1 _ rfl, hcell 2 _ rfl⟩
  have hC1 := hN.cell
  obtain ⟨f, hf⟩ := (hN.old (Below.refl _ _)).2.2
  have HF := Lib.hid hf
  have HN := Lib.hid hN
  have HR := Lib.hid (Kd.R_types hR hN.1 (by decide))
  have HO := Lib.hid hoki
  clear hN hR hM hcell hcl hpe hp hoki hf
  have hk1 : (k : Int) < ms.length := by omega
  go_enter Try.func23, Try.ntmps23
  go_upto_region 4 with (first | ((with_reducible refine gate_dst (N := 4) rfl ?_); refine box_event ?hg (N := 4) ?hd (cs := #[.int .i64 0, .int .i64 0, .slice none 0 0]) (t := 29) ?hr ?_; (case hd => rfl); (case hg => rfl); (case hr => first | (go_simp; done) | (go_simp; rfl)); intro gb hg w1 hbox hb; obtain ⟨g4, rfl⟩ : ∃ g_, g_ = gb := ⟨_, rfl⟩; have hE_ := (⟨cell_below hb hE.1, cell_below hb hE.2.1, cell_below hb hE.2.2⟩ : _ ∧ _ ∧ _); have hC_ := cell_below hb hC1; have hB_ := Lib.hid hb; have h4 := Lib.hid hbox; have hg4 := Lib.hid (Nat.le_of_eq hg.symm); clear hE hC1; have hE := hE_; have hC1 := hC_; clear hE_ hC_ hb hbox hg) | ((with_reducible refine gate_dst (N := 6) rfl ?_); refine box_event ?hg (N := 6) ?hd (cs := #[.int .i64 0, .int .i64 0, .slice none 0 0]) (t := 29) ?hr ?_; (case hd => rfl); (case hg => rfl); (case hr => first | (go_simp; done) | (go_simp; rfl)); intro gb hg w1 hbox hb; obtain ⟨g8, rfl⟩ : ∃ g_, g_ = gb := ⟨_, rfl⟩; have hC_ := cell_below hb hC1; have hB2_ := Lib.hid (below_step hB_.out hb); have h4_ := blk_below h4.out hb; have hg8 := Lib.hid (Nat.le_trans hB_.out.size (Nat.le_of_eq hg.symm)); have h48 := Lib.hid (Nat.ne_of_lt (Nat.lt_of_lt_of_le (blk_lt h4.out) (Nat.le_of_eq hg.symm))); clear hC1 hB_ h4; have hC1 := hC_; have hB_ := hB2_; have h4 := Lib.hid h4_; have h8 := Lib.hid hbox; have z0 : World.cell? w1 ⟨g8, 0, none⟩ = some (.int .i64 0) := (blk_cell hbox 0).trans rfl; have zf0 := blk_frozen hbox 0; have z1 : World.cell? w1 ⟨g8, 1, none⟩ = some (.int .i64 0) := (blk_cell hbox 1).trans rfl; have zf1 := blk_frozen hbox 1; have z2 : World.cell? w1 ⟨g8, 2, none⟩ = some (.slice none 0 0) := (blk_cell hbox 2).trans rfl; have zf2 := blk_frozen hbox 2; clear hE hC_ hB2_ h4_ hb hbox hg) | ((with_reducible go_at_call 30); go_must (refine (is_in r ms.length cap _ k hk _ hC1).mono ?_; rintro e w' ⟨rfl, rfl⟩)))
  refine world_gen (P := fun w5 => Below w.heap.size w w5 ∧ w5.heap[g4]? = some (.cells #[.int .i64 0, .int .i64 0, .slice none 0 0] 29 (0, 0)) ∧ w5.heap[g8]? = some (.cells #[.int .i64 p.f0, .int .i64 p.f1, .slice A2 p.f2.length c2] 29 (0, 0))) ⟨below_set (below_set (below_set hB_.out hg8.out) hg8.out) hg8.out, blk_far (p := ⟨g8, 2, none⟩) (blk_far (p := ⟨g8, 1, none⟩) (blk_far (p := ⟨g8, 0, none⟩) h4.out h48.out _) h48.out _) h48.out _, blk_put (blk_put (blk_put h8.out 0 (.int .i64 p.f0) rfl) 1 (.int .i64 p.f1) rfl) 2 (.slice A2 p.f2.length c2) rfl⟩ (fun w5 h5 => ?_)
  clear hC1 hB_ h4 h8 z0 z1 z2 zf0 zf1 zf2
  obtain ⟨p1, p2, p3⟩ := h5
  have hC1 := (HN.out.kept p1).cell
  have hF5 := Lib.hid (Kd.R_below HF.out p1)
  have HB5 := Lib.hid p1
  have h4 := Lib.hid p2
  have h8 := Lib.hid p3
  have h4l := Lib.hid (blk_lt p2)
  clear p1 p2 p3
  have hk2 : (k : Int) ≤ cap := by omega
  have hk3 : (k : Int) + 1 ≤ ms.length := by omega
  have hk4 : ((k : Int) + 1).toNat = k + 1 := by omega
  have hk5 : (0 : Int) ≤ (k : Int) + 1 := by omega
  have hck : ¬ cap = k := by omega
  have hwk : IntKind.i64.wrap ((k : Int) + 1) = (k : Int) + 1 := by rw [i64_w]; unfold wrap64; omega
  have hlk : (ms.zipIdx.take k).length = k := by rw [List.length_take, List.length_zipIdx]; omega
  have hle : (ms.zipIdx.eraseIdx k).length = ms.length - 1 := by rw [List.length_eraseIdx, List.length_zipIdx, if_pos hk]
  go_upto_region 6 with (first | ((with_reducible refine gate_builtin (b := .append) (xs := #[.tmp 20, .tmp 26]) rfl ?_); at_builtin; go_must (refine Kd.R_append_rows (Kd.tag f k29) (w0 := w) base rfl (.tmp 20) (.tmp 26) 39 29 (.agg #[.int .i64 0, .int .i64 0, .slice none 0 0]) 40 rfl Try.underlying39 info29 rfl (show 0 < 3 by decide) (by decide) (.slice none 0 0) [] (ms.zipIdx.take k) _ _ _ (fun q => (okl q ∨ w.heap.size ≤ q) ∧ q ≠ g4) (fun q => okl q ∧ q < w.heap.size) rfl rfl (Kd.R_nil _ _ _ _ _) (rows_take (rows_of hF5.out (fun _ h => h)) (by rw [List.length_zipIdx]; omega)) (fun _ _ h => h) ?hop ?hfr (Below.mono HB5.out (by have := HN.out.lt; have := HN.out.2.1; omega)) (by have := HN.out.lt; have := HN.out.2.1; have := HB5.out.size; omega) (by simp; omega) ?_; (case hop => exact (fun q hq => ⟨⟨.inl hq.1, by have := hg4.out; omega⟩, by simp [Value.ownBlock]⟩)); (case hfr => exact (fun q hq => ⟨.inr (Nat.le_trans HB5.out.size hq), by have := h4l.out; omega⟩)); intro v7 w7 ho hb hg hat; rw [List.nil_append] at ho; obtain ⟨A7, c7, rfl⟩ := Kd.R_slice ho; rw [hlk] at ho hat ⊢; have hB7 := below_none hg rfl; have HN7 := Lib.hid ((HN.out.kept HB5.out).kept hB7); have HF7 := Lib.hid (Kd.R_below hF5.out hB7); have H47 := Lib.hid (blk_below h4.out hB7); have H87 := Lib.hid (blk_below h8.out hB7); have HV7 := Lib.hid ho; have HB7 := Lib.hid hb; have HG7 := Lib.hid hg; have HAT := Lib.hid hat; clear ho hb hg hat hB7)))
  all_goals
    have hC7 := (HN7.out).cell
    clear hC1
    rcases Classical.em (cap = k + 1) with hcc | hcc
    · subst hcc
      go_upto_region 7 with (first | ((with_reducible refine gate_builtin (b := .append) (xs := #[.tmp 28, .tmp 35]) rfl ?_); at_builtin; go_must (refine Kd.R_append_rows (Kd.tag f k29) (w0 := w) base rfl (.tmp 28) (.tmp 35) 39 29 (.agg #[.int .i64 0, .int .i64 0, .slice none 0 0]) 40 rfl Try.underlying39 info29 rfl (show 0 < 3 by decide) (by decide) _ (ms.zipIdx.take k) (ms.zipIdx.drop (k + 1)) _ _ _ (fun q => (okl q ∨ w.heap.size ≤ q) ∧ q ≠ g4) (fun q => okl q ∧ q < w.heap.size) rfl rfl HV7.out (rows_drop (m := k + 1) (rows_of HF7.out (fun _ h => h)) ?hm ?hA) (fun _ _ h => h) ?hop ?hfr HB7.out (by have := HN.out.lt; have := HN.out.2.1; have := HB7.out.size; omega) (by simp; omega) ?_; (case hm => first | (rw [List.length_zipIdx]; omega) | (rw [List.length_zipIdx])); (case hA => first | exact (fun _ => rfl) | exact (fun _ => if_neg (by omega)) | exact (fun h => absurd h (by omega)) | (intro hq_; exfalso; omega)); (case hop => exact (fun q hq => ⟨⟨.inl hq.1, by have := hg4.out; omega⟩, hat_ne rfl HAT.out (Nat.lt_of_lt_of_le hq.2 HB5.out.size)⟩)); (case hfr => exact (fun q hq => ⟨.inr (Nat.le_trans HB7.out.size hq), by have := blk_lt H47.out; omega⟩)); intro v8 w8 ho hb hg hat; rw [← List.eraseIdx_eq_take_drop_succ] at ho; obtain ⟨A8, c8, rfl⟩ := Kd.R_slice ho; rw [hle] at ho ⊢; have H48 := Lib.hid (blk_grown H47.out hg (hat_ne rfl HAT.out h4l.out)); have H88 := Lib.hid (blk_grown H87.out hg (hat_ne rfl HAT.out (blk_lt h8.out))); have HR8 := Lib.hid (blk_grown HN7.out.1 hg (hat_ne rfl HAT.out (Nat.lt_of_lt_of_le HN.out.lt HB5.out.size))); have HV8 := Lib.hid ho; have HG8 := Lib.hid hg; clear ho hb hg hat)))
      all_goals
        have z0 : w8.cell? ⟨g8, 0, none⟩ = some (.int .i64 p.f0) := (blk_cell H88.out 0).trans rfl
        have z1 : w8.cell? ⟨g8, 1, none⟩ = some (.int .i64 p.f1) := (blk_cell H88.out 1).trans rfl
        have z2 : w8.cell? ⟨g8, 2, none⟩ = some (.slice A2 p.f2.length c2) := (blk_cell H88.out 2).trans rfl
        have y0 : w8.cell? ⟨g4, 0, none⟩ = some (.int .i64 0) := (blk_cell H48.out 0).trans rfl
        have y1 : w8.cell? ⟨g4, 1, none⟩ = some (.int .i64 0) := (blk_cell H48.out 1).trans rfl
        have y2 : w8.cell? ⟨g4, 2, none⟩ = some (.slice none 0 0) := (blk_cell H48.out 2).trans rfl
        have yf0 := blk_frozen H48.out 0
        have yf1 := blk_frozen H48.out 1
        have yf2 := blk_frozen H48.out 2
        have hr8 := blk_cell HR8.out 0
        have hrf := blk_frozen HR8.out 0
        have h8r := blk_ne HR8.out H88.out (by decide)
        have h4r := blk_ne HR8.out H48.out (by decide)
        clear hC7
        go_wp2
        all_goals
          obtain ⟨q1, q2, q3, q4⟩ := rtake_fin HN.out HB5.out HG7.out HAT.out HG8.out HV8.out hg4.out H48.out HR8.out (.int .i64 p.f0) (.int .i64 p.f1) (.slice A2 p.f2.length c2) _ rfl
          refine bodyPost_ret (results_ct rfl _ _ g4 29 #[.int .i64 p.f0, .int .i64 p.f1, .slice A2 p.f2.length c2] (0, 0) _ rfl q4 Try.underlying29 rfl (by kernel_rfl)) rfl ?_
          have hR7 := Kd.R_step HR.out (fun b hb hlt => q3.2 b hlt hb.2)
          exact ⟨A2, c2, rfl, Kd.R_mono hR7 (fun b hb => (HO.out b hb.1).1), ⟨_, q1⟩, q2, q3⟩
    · go_upto_region 7 with (first | ((with_reducible refine gate_builtin (b := .append) (xs := #[.tmp 28, .tmp 35]) rfl ?_); at_builtin; go_must (refine Kd.R_append_rows (Kd.tag f k29) (w0 := w) base rfl (.tmp 28) (.tmp 35) 39 29 (.agg #[.int .i64 0, .int .i64 0, .slice none 0 0]) 40 rfl Try.underlying39 info29 rfl (show 0 < 3 by decide) (by decide) _ (ms.zipIdx.take k) (ms.zipIdx.drop (k + 1)) _ _ _ (fun q => (okl q ∨ w.heap.size ≤ q) ∧ q ≠ g4) (fun q => okl q ∧ q < w.heap.size) rfl rfl HV7.out (rows_drop (m := k + 1) (rows_of HF7.out (fun _ h => h)) ?hm ?hA) (fun _ _ h => h) ?hop ?hfr HB7.out (by have := HN.out.lt; have := HN.out.2.1; have := HB7.out.size; omega) (by simp; omega) ?_; (case hm => first | (rw [List.length_zipIdx]; omega) | (rw [List.length_zipIdx])); (case hA => first | exact (fun _ => rfl) | exact (fun _ => if_neg (by omega)) | exact (fun h => absurd h (by omega)) | (intro hq_; exfalso; omega)); (case hop => exact (fun q hq => ⟨⟨.inl hq.1, by have := hg4.out; omega⟩, hat_ne rfl HAT.out (Nat.lt_of_lt_of_le hq.2 HB5.out.size)⟩)); (case hfr => exact (fun q hq => ⟨.inr (Nat.le_trans HB7.out.size hq), by have := blk_lt H47.out; omega⟩)); intro v8 w8 ho hb hg hat; rw [← List.eraseIdx_eq_take_drop_succ] at ho; obtain ⟨A8, c8, rfl⟩ := Kd.R_slice ho; rw [hle] at ho ⊢; have H48 := Lib.hid (blk_grown H47.out hg (hat_ne rfl HAT.out h4l.out)); have H88 := Lib.hid (blk_grown H87.out hg (hat_ne rfl HAT.out (blk_lt h8.out))); have HR8 := Lib.hid (blk_grown HN7.out.1 hg (hat_ne rfl HAT.out (Nat.lt_of_lt_of_le HN.out.lt HB5.out.size))); have HV8 := Lib.hid ho; have HG8 := Lib.hid hg; clear ho hb hg hat)))
      all_goals
        have z0 : w8.cell? ⟨g8, 0, none⟩ = some (.int .i64 p.f0) := (blk_cell H88.out 0).trans rfl
        have z1 : w8.cell? ⟨g8, 1, none⟩ = some (.int .i64 p.f1) := (blk_cell H88.out 1).trans rfl
        have z2 : w8.cell? ⟨g8, 2, none⟩ = some (.slice A2 p.f2.length c2) := (blk_cell H88.out 2).trans rfl
        have y0 : w8.cell? ⟨g4, 0, none⟩ = some (.int .i64 0) := (blk_cell H48.out 0).trans rfl
        have y1 : w8.cell? ⟨g4, 1, none⟩ = some (.int .i64 0) := (blk_cell H48.out 1).trans rfl
        have y2 : w8.cell? ⟨g4, 2, none⟩ = some (.slice none 0 0) := (blk_cell H48.out 2).trans rfl
        have yf0 := blk_frozen H48.out 0
        have yf1 := blk_frozen H48.out 1
        have yf2 := blk_frozen H48.out 2
        have hr8 := blk_cell HR8.out 0
        have hrf := blk_frozen HR8.out 0
        have h8r := blk_ne HR8.out H88.out (by decide)
        have h4r := blk_ne HR8.out H48.out (by decide)
        clear hC7
        go_wp2
        all_goals
          obtain ⟨q1, q2, q3, q4⟩ := rtake_fin HN.out HB5.out HG7.out HAT.out HG8.out HV8.out hg4.out H48.out HR8.out (.int .i64 p.f0) (.int .i64 p.f1) (.slice A2 p.f2.length c2) _ rfl
          refine bodyPost_ret (results_ct rfl _ _ g4 29 #[.int .i64 p.f0, .int .i64 p.f1, .slice A2 p.f2.length c2] (0, 0) _ rfl q4 Try.underlying29 rfl (by kernel_rfl)) rfl ?_
          have hR7 := Kd.R_step HR.out (fun b hb hlt => q3.2 b hlt hb.2)
          exact ⟨A2, c2, rfl, Kd.R_mono hR7 (fun b hb => (HO.out b hb.1).1), ⟨_, q1⟩, q2, q3⟩
end Go.Proofs.Ytglhojkchpbnkaa.NetS
