/- PROVED: the law NetOwn: the walk. No condition. -/
import Derived.Test.YtglhojkchpbnkaaNetAwake
import Derived.Test.YtglhojkchpbnkaaNet2
import Derived.WalkKit
import Derived.WalkSpells
import Derived.WalkLawsBesides
import Derived.Outline
import Derived.Lib.Hide
import Derived.Deep.LoopGhost
import Derived.Deep.RegionHeld3
import Derived.Deep.DeepCutAuto
import Derived.Deep.RegionLaw
import Derived.BigQuiet
import Derived.Deep.QuietTactic
namespace Go.Proofs.Ytglhojkchpbnkaa.NetOwn
open Go.RowKit Go.Proofs.Ytglhojkchpbnkaa.PNetOwn Go.Proofs.Ytglhojkchpbnkaa.Net2 Go.Proofs.YtglhojkchpbnkaaW.PrintWords Go.Proofs.YtglhojkchpbnkaaW.PrintLast Go.Proofs.YtglhojkchpbnkaaW.PrintMore
open Go.Proofs.Ytglhojkchpbnkaa.Net (own_is info29 k29_types at_in len_is look_fin)
open Go.Proofs.Ytglhojkchpbnkaa.NetAwake (world_gen awake_ok)
set_option linter.unusedSimpArgs false
set_option linter.unusedVariables false
theorem w_in {n : Int} (h : -9223372036854775808 ≤ n) (h' : n ≤ 9223372036854775807) : wrap64 n = n := by
  unfold wrap64
  omega
theorem same_l (l : List Int) (hm : l.length ≤ 65536) (d : Nat) : ∀ (k : Nat) (i : Int), 0 ≤ i → i ≤ (l.length : Int) → (l.length : Int) - i = d → d < k → juratref01_Same.l0 k l l i = some true := by
  induction d with
  | zero =>
    intro k i i0 i1 hd hk
    obtain ⟨k, rfl⟩ : ∃ m, k = m + 1 := ⟨k - 1, by omega⟩
    rw [juratref01_Same.l0, if_neg (by omega)]
  | succ d ih =>
    intro k i i0 i1 hd hk
    obtain ⟨k, rfl⟩ : ∃ m, k = m + 1 := ⟨k - 1, by omega⟩
    rw [juratref01_Same.l0, if_pos (by omega), if_pos i0, if_pos (by omega), if_pos rfl, w_in (by omega) (by omega)]
    exact ih k (i + 1) (by omega) (by omega) (by omega) (by omega)
theorem one_true (a b : Int) (l : List Int) (hl : l.length ≤ 500) : juratref24_SameOne.f 600 a b l a b l = some true := by
  unfold juratref24_SameOne.f
  rw [if_pos rfl, if_pos rfl]
  unfold juratref01_Same.f
  rw [if_pos rfl, same_l l (by omega) l.length 600 0 (by omega) (by omega) (by omega) (by omega)]
  rfl
theorem diff_l (l l' : List Int) (hm : l.length ≤ 65536) (he : l'.length = l.length) (j : Nat) (hj : j < l.length) (hd : rd l j ≠ rd l' j) (hs : ∀ i : Nat, i < j → rd l i = rd l' i) (d : Nat) : ∀ (k i : Nat), i ≤ j → j - i = d → d < k → juratref01_Same.l0 k l l' (i : Int) = some false := by
  induction d with
  | zero =>
    intro k i i1 hd' hk
    obtain ⟨k, rfl⟩ : ∃ m, k = m + 1 := ⟨k - 1, by omega⟩
    obtain rfl : i = j := by omega
    rw [juratref01_Same.l0, if_pos (by omega), if_pos (by omega), if_pos (by omega), if_neg hd]
  | succ d ih =>
    intro k i i1 hd' hk
    obtain ⟨k, rfl⟩ : ∃ m, k = m + 1 := ⟨k - 1, by omega⟩
    rw [juratref01_Same.l0, if_pos (by omega), if_pos (by omega), if_pos (by omega), if_pos (hs i (by omega)), w_in (by omega) (by omega)]
    exact ih k (i + 1) (by omega) (by omega) (by omega)
theorem xor1 : ∀ x : Fin 256, Go.bits .xor .u8 (x.val : Int) 1 ≠ (x.val : Int) := by decide +kernel
theorem one_false (a b : Int) (l : List Int) (hl : l.length ≤ 500) (hb : ∀ x ∈ l, (Lit.int .u8 x).wf = true) (j : Nat) (hj : j < l.length) : juratref24_SameOne.f 600 a b (l.set j (Go.bits .xor .u8 (rd l j) 1)) a b l = some false := by
  unfold juratref24_SameOne.f
  rw [if_pos rfl, if_pos rfl]
  unfold juratref01_Same.f
  rw [if_pos (by simp)]
  have e1 : rd l (j : Int) = l[j] := by unfold rd; simp [List.getD, List.getElem?_eq_getElem hj]
  have h0 : 0 ≤ l[j] ∧ l[j] < 256 := by
    have := hb _ (List.getElem_mem hj)
    simp [Lit.wf, IntKind.min, IntKind.max, IntKind.signed, IntKind.bits] at this
    omega
  have hx : Go.bits .xor .u8 (rd l (j : Int)) 1 ≠ rd l (j : Int) := by
    have := xor1 ⟨l[j].toNat, by omega⟩
    have e2 : ((l[j].toNat : Nat) : Int) = l[j] := by omega
    rw [e1]
    simp only [e2] at this
    exact this
  have := diff_l (l.set j (Go.bits .xor .u8 (rd l j) 1)) l (by simp; omega) (by simp) j (by simpa using hj) (by
    have e3 : rd (l.set j (Go.bits .xor .u8 (rd l j) 1)) (j : Int) = Go.bits .xor .u8 (rd l j) 1 := by
      conv => lhs; unfold rd
      simp [List.getD, hj, e1]
    rw [e3]
    exact hx) (fun i hi => by
      unfold rd
      simp [List.getD, List.getElem?_set, show j ≠ i by omega]) j 600 0 (Nat.zero_le _) (by omega) (by omega)
  rw [show ((0 : Nat) : Int) = 0 from rfl] at this
  rw [this]
  rfl
theorem idx_is (n : Nat) (i : Int) (h0 : 0 < n) (h1 : n ≤ 500) : ∃ j : Nat, j < n ∧ wrap64 ((IntKind.u64.wrap i).tmod (n : Int)) = (j : Int) := by
  have h2 : 0 ≤ IntKind.u64.wrap i := by rw [IntKind.wrap_u64]; omega
  have h3 := Int.emod_nonneg (IntKind.u64.wrap i) (show (n : Int) ≠ 0 by omega)
  have h4 := Int.emod_lt_of_pos (IntKind.u64.wrap i) (show (0 : Int) < n by omega)
  refine ⟨(IntKind.u64.wrap i % (n : Int)).toNat, by omega, ?_⟩
  rw [Int.tmod_eq_emod_of_nonneg h2, w_in (by omega) (by omega)]
  omega
theorem store_x {B B2 gm gx : Nat} {ok : Nat → Prop} {w w1 : World} {r : Nat} {v vx : Value} {ms : List S29} {l : List Int} {cm cs : Array Value} (hN : NetIs B ok w1 r v ms) (hM : w1.heap[gm]? = some (.cells cm 29 (0, 0))) (hX : w1.heap[gx]? = some (.cells cs 29 (0, 0)))
    (hR : Kd.R (Kd.int .u8) 5 w1 B2 (fun _ => True) vx l) (hB : Below w.heap.size w w1) (hne : gm ≠ gx) (hge : w.heap.size ≤ gx) (hok : ∀ k, ok k → k ≠ gx) (a b u : Value) :
    NetIs B ok (((w1.setCell ⟨gx, 0, none⟩ a).setCell ⟨gx, 1, none⟩ b).setCell ⟨gx, 2, none⟩ u) r v ms ∧ (((w1.setCell ⟨gx, 0, none⟩ a).setCell ⟨gx, 1, none⟩ b).setCell ⟨gx, 2, none⟩ u).heap[gm]? = some (.cells cm 29 (0, 0)) ∧
    (((w1.setCell ⟨gx, 0, none⟩ a).setCell ⟨gx, 1, none⟩ b).setCell ⟨gx, 2, none⟩ u).heap[gx]? = some (.cells (((cs.setIfInBounds 0 a).setIfInBounds 1 b).setIfInBounds 2 u) 29 (0, 0)) ∧ Kd.R (Kd.int .u8) 5 (((w1.setCell ⟨gx, 0, none⟩ a).setCell ⟨gx, 1, none⟩ b).setCell ⟨gx, 2, none⟩ u) B2 (fun _ => True) vx l ∧
    Below w.heap.size w (((w1.setCell ⟨gx, 0, none⟩ a).setCell ⟨gx, 1, none⟩ b).setCell ⟨gx, 2, none⟩ u) := by
  have hr : r ≠ gx := blk_ne hN.1 hX (by decide)
  exact ⟨((hN.far (p := ⟨gx, 0, none⟩) hr hok a).far (p := ⟨gx, 1, none⟩) hr hok b).far (p := ⟨gx, 2, none⟩) hr hok u, blk_far (p := ⟨gx, 2, none⟩) (blk_far (p := ⟨gx, 1, none⟩) (blk_far (p := ⟨gx, 0, none⟩) hM hne a) hne b) hne u,
    blk_put (blk_put (blk_put hX 0 a rfl) 1 b rfl) 2 u rfl,
    Kd.R_mono (Kd.R_far (p := ⟨gx, 2, none⟩) (Kd.R_far (p := ⟨gx, 1, none⟩) (Kd.R_far (p := ⟨gx, 0, none⟩) (Kd.R_types hR hX (by decide)) (fun _ hk => hk.2) a) (fun _ hk => hk.2) b) (fun _ hk => hk.2) u) (fun _ _ => trivial),
    below_set (below_set (below_set hB hge) hge) hge⟩
/-- A byte of a row of one's own, and its block. -/
theorem byte_at {w : World} {B g c : Nat} {ok : Nat → Prop} {l : List Int} (h : Kd.R (Kd.int .u8) 5 w B ok (.slice (some ⟨g, 0, none⟩) l.length c) l) {j : Nat} (hj : j < l.length) : ∃ cs : Array Value, w.heap[g]? = some (.cells cs 5 (0, 0)) ∧ cs[j]? = some (.int .u8 (rd l j)) := by
  obtain ⟨g2, c2, he, _, _, cs, hX⟩ := Kd.R_form h (by omega)
  simp only [Value.slice.injEq, Option.some.injEq, Addr.mk.injEq] at he
  obtain ⟨⟨rfl, _, _⟩, _, rfl⟩ := he
  obtain ⟨b, off, he, _, hel⟩ := LRead.C_addr (Kd.R_reads' h).2.2 (by decide) (by omega)
  simp only [Option.some.injEq, Addr.mk.injEq] at he
  obtain ⟨rfl, rfl, _⟩ := he
  obtain ⟨c1, hc1, hK1, hcell1⟩ := hel j (l[j]) (by simp)
  have hK2 : c1 = [.int .u8 l[j]] := hK1
  subst hK2
  have e1 : (0 : Nat) + j * (Kd.int .u8).sz + 0 = j := by show 0 + j * 1 + 0 = j; omega
  have h1 := hcell1 0 _ rfl
  rw [e1] at h1
  refine ⟨cs, hX, ?_⟩
  have h2 := blk_cell hX j
  rw [h1] at h2
  rw [← h2]
  unfold rd
  simp [List.getD, List.getElem?_eq_getElem hj]
/-- A message of a row of messages, and its cells. -/
theorem S_at {base n cap k : Nat} {ok : Nat → Prop} {w : World} {ao : Option Addr} {ms : List S29} {p : S29} (h : Kd.S k29 29 w base ok (.slice ao n cap) ms) (hp : ms[k]? = some p) :
    ∃ b off A2 c2, n = ms.length ∧ ao = some ⟨b, off, none⟩ ∧ (w.cell? ⟨b, off + k * 3, none⟩ = some (.int .i64 p.f0) ∧ w.cell? ⟨b, off + k * 3 + 1, none⟩ = some (.int .i64 p.f1) ∧ w.cell? ⟨b, off + k * 3 + 2, none⟩ = some (.slice A2 p.f2.length c2)) ∧ p.f2.length ≤ c2 ∧ Kd.C (Kd.int .u8) w A2 p.f2.length p.f2 := by
  obtain ⟨hn, hcap, hC⟩ := Kd.S_reads' h
  have hk : k < ms.length := (List.getElem?_eq_some_iff.1 hp).1
  obtain ⟨b, off, rfl, hb, hel⟩ := LRead.C_addr hC (by decide) (by omega)
  obtain ⟨c, hc, hK, hcell⟩ := hel k p hp
  obtain ⟨A2, c2, rfl, l2, g2⟩ := k29_open hK
  exact ⟨b, off, A2, c2, hn, rfl, ⟨hcell 0 _ rfl, hcell 1 _ rfl, hcell 2 _ rfl⟩, l2, g2⟩
theorem cell_below {w w1 : World} (h : Below w.heap.size w w1) {a : Addr} {v : Value} (hc : w.cell? a = some v) : w1.cell? a = some v := (World.cell?_of_block (h.block _ (World.block_lt_of_cell? w a hc))).trans hc
theorem cell_below_d {w w1 : World} (h : Below w.drew.heap.size w.drew w1) {a : Addr} {v : Value} (hc : w.cell? a = some v) : w1.cell? a = some v := cell_below h (by rw [World.cell?_drew]; exact hc)
theorem same_at (k : Nat) (a b : Int) (A0 : Option Addr) (c0 : Nat) (l0 : List Int) (n0 : Nat) (a' b' : Int) (A1 : Option Addr) (c1 : Nat) (l1 : List Int) (r : Bool) (w : World) (hn : n0 = l0.length) (h0 : Kd.C (Kd.int .u8) w A0 l0.length l0) (hc0 : l0.length ≤ c0) (h1 : Kd.C (Kd.int .u8) w A1 l1.length l1) (hc1 : l1.length ≤ c1)
    (h : juratref24_SameOne.f k a b l0 a' b' l1 = some r) : Calls Try.prog 15 #[.agg #[.int .i64 a, .int .i64 b, .slice A0 n0 c0], .agg #[.int .i64 a', .int .i64 b', .slice A1 l1.length c1]] w fun e w' => e = .returned (.bool r) ∧ Below w.heap.size w w' := by
  subst hn
  exact juratref24_SameOne.calls k a b A0 c0 l0 a' b' A1 c1 l1 r w h0 hc0 h1 hc1 h
theorem copy_is (a0 a1 : Int) (l : List Int) (h : l.length ≤ 65536) : juratref24_Copy.f a0 a1 l = some (a0, a1, l) := by
  unfold juratref24_Copy.f
  simp only [Option.bind_some, List.nil_append, List.length_nil]
  rw [if_pos (by omega)]
theorem new_any (w : World) : Calls Try.prog 9 #[] w fun e w' => ∃ r, e = .returned (.pointer (some ⟨r, 0, none⟩)) ∧ NetIs w.heap.size (fun _ => False) w' r (.slice none ([] : List S29).length 0) [] ∧ Below w.heap.size w w' := by
  go_enter Try.func9, Try.ntmps9
  go_wp2
  go_ret
  exact ⟨_, rfl, ⟨blk_new _ _, Nat.le_refl _, Kd.S_nil _ _ _ _ _⟩, below_alloc (Below.refl _ _) _⟩
set_option maxHeartbeats 4000000 in
set_option maxRecDepth 100000 in
theorem own_walk (a0 a1 : Int) (A : Option Addr) (c : Nat) (l : List Int) (i : Int) (w : World) (hR : Kd.C (Kd.int .u8) w A l.length l) (hc : l.length ≤ c) (hb8 : ∀ x ∈ l, (Lit.int .u8 x).wf = true) (hi : -9223372036854775808 ≤ i ∧ i ≤ 9223372036854775807) :
    Calls Try.prog 4 #[.agg #[.int .i64 a0, .int .i64 a1, .slice A l.length c], .int .i64 i] w fun e w' => e = .returned (.bool true) ∧ Below w.heap.size w w' := by
  have HR := Lib.hid hR
  have HB8 := Lib.hid hb8
  clear hR hb8
  by_cases c1 : 500 < l.length
  · have c1' : (500 : Int) < l.length := by omega
    go_enter Try.func4, Try.ntmps4
    go_wp2_with (first | ((with_reducible refine gate_dst (N := 2) rfl ?_); refine box_event ?hg (N := 2) ?hd (cs := #[.int .i64 a0, .int .i64 a1, .slice A l.length c]) (t := 29) ?hr ?_; (case hd => rfl); (case hg => rfl); (case hr => first | (go_simp; done) | (go_simp; rfl)); intro gb hg w1 hbox hb; have m0 : World.cell? w1 ⟨gb, 0, none⟩ = some (.int .i64 a0) := (blk_cell hbox 0).trans rfl; have mf0 := blk_frozen hbox 0; have m1 : World.cell? w1 ⟨gb, 1, none⟩ = some (.int .i64 a1) := (blk_cell hbox 1).trans rfl; have mf1 := blk_frozen hbox 1; have m2 : World.cell? w1 ⟨gb, 2, none⟩ = some (.slice A l.length c) := (blk_cell hbox 2).trans rfl; have mf2 := blk_frozen hbox 2; have HB := Lib.hid hb; clear hbox hb hg) | ((with_reducible go_at_call 8); go_must (refine (awake_ok _).mono ?_; rintro e w' ⟨rfl, hb⟩; have hb_ := below_step HB.out hb; clear HB; have HB := Lib.hid hb_; clear hb_ hb)))
    go_ret
    exact ⟨rfl, HB.out⟩
  by_cases c2 : l.length = 0
  · have c2' : (l.length : Int) = 0 := by omega
    go_enter Try.func4, Try.ntmps4
    go_wp2_with (first | ((with_reducible refine gate_dst (N := 2) rfl ?_); refine box_event ?hg (N := 2) ?hd (cs := #[.int .i64 a0, .int .i64 a1, .slice A l.length c]) (t := 29) ?hr ?_; (case hd => rfl); (case hg => rfl); (case hr => first | (go_simp; done) | (go_simp; rfl)); intro gb hg w1 hbox hb; have m0 : World.cell? w1 ⟨gb, 0, none⟩ = some (.int .i64 a0) := (blk_cell hbox 0).trans rfl; have mf0 := blk_frozen hbox 0; have m1 : World.cell? w1 ⟨gb, 1, none⟩ = some (.int .i64 a1) := (blk_cell hbox 1).trans rfl; have mf1 := blk_frozen hbox 1; have m2 : World.cell? w1 ⟨gb, 2, none⟩ = some (.slice A l.length c) := (blk_cell hbox 2).trans rfl; have mf2 := blk_frozen hbox 2; have HB := Lib.hid hb; clear hbox hb hg) | ((with_reducible go_at_call 8); go_must (refine (awake_ok _).mono ?_; rintro e w' ⟨rfl, hb⟩; have hb_ := below_step HB.out hb; clear HB; have HB := Lib.hid hb_; clear hb_ hb)))
    go_ret
    exact ⟨rfl, HB.out⟩
  have c1' : (l.length : Int) ≤ 500 := by omega
  have c2' : (0 : Int) < l.length := by omega
  have c3' : ((l.length : Int) == 0) = false := by rw [beq_eq_false_iff_ne]; omega
  have hcp := Lib.hid (copy_is a0 a1 l (by omega))
  go_enter Try.func4, Try.ntmps4
  obtain ⟨j, hj, ej⟩ : ∃ j : Nat, j < l.length ∧ wrap64 ((IntKind.u64.wrap i).tmod (l.length : Int)) = (j : Int) := idx_is l.length i (by omega) (by omega)
  have hj' : (j : Int) < l.length := by omega
  go_upto_region 6 with (first | ((with_reducible refine gate_dst (N := 2) rfl ?_); refine box_event ?hg (N := 2) ?hd (cs := #[.int .i64 a0, .int .i64 a1, .slice A l.length c]) (t := 29) ?hr ?_; (case hd => rfl); (case hg => rfl); (case hr => first | (go_simp; done) | (go_simp; rfl)); intro gb hg w1 hbox hb; obtain ⟨gm, rfl⟩ : ∃ g, g = gb := ⟨_, rfl⟩; have m0 : World.cell? w1 ⟨gm, 0, none⟩ = some (.int .i64 a0) := (blk_cell hbox 0).trans rfl; have mf0 := blk_frozen hbox 0; have m1 : World.cell? w1 ⟨gm, 1, none⟩ = some (.int .i64 a1) := (blk_cell hbox 1).trans rfl; have mf1 := blk_frozen hbox 1; have m2 : World.cell? w1 ⟨gm, 2, none⟩ = some (.slice A l.length c) := (blk_cell hbox 2).trans rfl; have mf2 := blk_frozen hbox 2; have HM := Lib.hid hbox; have HB := Lib.hid hb; clear hbox hb hg) | ((with_reducible go_at_call 9); go_must (refine (new_any _).mono ?_; rintro e w' ⟨r, rfl, hn, hb⟩; obtain ⟨B, hBe⟩ : ∃ B : Nat, B = w1.heap.size := ⟨_, rfl⟩; rw [← hBe] at hn; have hbB := Lib.hid (show Below B w1 w' from hBe ▸ hb); have hgm1 : Hid (gm < B) := Lib.hid (by rw [hBe]; exact blk_lt HM.out); have hbw : Hid (w.heap.size ≤ B) := Lib.hid (by rw [hBe]; exact HB.out.size); have hm_ := blk_below HM.out hb; have hb_ := below_step HB.out hb; have HN := Lib.hid hn; clear HM HB m0 m1 m2 mf0 mf1 mf2 hn hb; have HM := Lib.hid hm_; have HB := Lib.hid hb_; have m0 : World.cell? w' ⟨gm, 0, none⟩ = some (.int .i64 a0) := (blk_cell hm_ 0).trans rfl; have mf0 := blk_frozen hm_ 0; have m1 : World.cell? w' ⟨gm, 1, none⟩ = some (.int .i64 a1) := (blk_cell hm_ 1).trans rfl; have mf1 := blk_frozen hm_ 1; have m2 : World.cell? w' ⟨gm, 2, none⟩ = some (.slice A l.length c) := (blk_cell hm_ 2).trans rfl; have mf2 := blk_frozen hm_ 2; clear hm_ hb_)) | ((with_reducible go_at_call 13); go_must (refine (juratref24_Copy.calls a0 a1 _ _ l a0 a1 l _ (Kd.C_below HR.out HB.out) hc hcp.out).mono ?_; rintro e w' ⟨v2, rfl, hr2, hb⟩; obtain ⟨Ax, cx, rfl⟩ := Kd.R_slice hr2; have HX := Lib.hid hr2; have hw2 := Lib.hid HB.out.size; have hn_ := HN.out.kept hb; have hm_ := blk_below HM.out hb; have hb_ := below_step HB.out hb; clear HN HM HB m0 m1 m2 mf0 mf1 mf2 hr2 hb; have HN := Lib.hid hn_; have HM := Lib.hid hm_; have HB := Lib.hid hb_; have m0 : World.cell? w' ⟨gm, 0, none⟩ = some (.int .i64 a0) := (blk_cell hm_ 0).trans rfl; have mf0 := blk_frozen hm_ 0; have m1 : World.cell? w' ⟨gm, 1, none⟩ = some (.int .i64 a1) := (blk_cell hm_ 1).trans rfl; have mf1 := blk_frozen hm_ 1; have m2 : World.cell? w' ⟨gm, 2, none⟩ = some (.slice A l.length c) := (blk_cell hm_ 2).trans rfl; have mf2 := blk_frozen hm_ 2; clear hn_ hm_ hb_)) | ((with_reducible refine gate_dst (N := 6) rfl ?_); refine box_event ?hg (N := 6) ?hd (cs := #[.int .i64 0, .int .i64 0, .slice none 0 0]) (t := 29) ?hr ?_; (case hd => rfl); (case hg => rfl); (case hr => first | (go_simp; done) | (go_simp; rfl)); intro gb hg w1 hbox hb; obtain ⟨gx, rfl⟩ : ∃ g, g = gb := ⟨_, rfl⟩; have hx_ := Kd.R_below HX.out hb; have hn_ := HN.out.kept hb; have hm_ := blk_below HM.out hb; have hb_ := below_step HB.out hb; have hmx := Lib.hid (Nat.ne_of_lt (Nat.lt_of_lt_of_le (blk_lt HM.out) (Nat.le_of_eq hg.symm))); have hwx := Lib.hid (Nat.le_trans HB.out.size (Nat.le_of_eq hg.symm)); clear HN HM HB HX m0 m1 m2 mf0 mf1 mf2; have HN := Lib.hid hn_; have HM := Lib.hid hm_; have HB := Lib.hid hb_; have HX := Lib.hid hx_; have HBX := Lib.hid hbox; have m0 : World.cell? w1 ⟨gm, 0, none⟩ = some (.int .i64 a0) := (blk_cell hm_ 0).trans rfl; have mf0 := blk_frozen hm_ 0; have m1 : World.cell? w1 ⟨gm, 1, none⟩ = some (.int .i64 a1) := (blk_cell hm_ 1).trans rfl; have mf1 := blk_frozen hm_ 1; have m2 : World.cell? w1 ⟨gm, 2, none⟩ = some (.slice A l.length c) := (blk_cell hm_ 2).trans rfl; have mf2 := blk_frozen hm_ 2; have x0 : World.cell? w1 ⟨gx, 0, none⟩ = some (.int .i64 0) := (blk_cell hbox 0).trans rfl; have xf0 := blk_frozen hbox 0; have x1 : World.cell? w1 ⟨gx, 1, none⟩ = some (.int .i64 0) := (blk_cell hbox 1).trans rfl; have xf1 := blk_frozen hbox 1; have x2 : World.cell? w1 ⟨gx, 2, none⟩ = some (.slice none 0 0) := (blk_cell hbox 2).trans rfl; have xf2 := blk_frozen hbox 2; clear hx_ hn_ hm_ hb_ hbox hg hb))
  clear ej hi
  obtain ⟨bx, cx1, hxe, _, _, _⟩ := Kd.R_form HX.out (by omega)
  simp only [Value.slice.injEq] at hxe
  obtain ⟨rfl, _, rfl⟩ := hxe
  have hbxw := Lib.hid (Nat.le_trans hw2.out (Kd.R_base HX.out _ rfl))
  obtain ⟨q1, q2, q3, q4, q5⟩ := store_x HN.out HM.out HBX.out HX.out HB.out hmx.out hwx.out (fun _ h => h.elim) (.int .i64 a0) (.int .i64 a1) (.slice (some ⟨bx, 0, none⟩) l.length cx)
  clear m0 m1 m2 mf0 mf1 mf2 x0 x1 x2 xf0 xf1 xf2 HN HM HB HX HBX
  refine world_gen (P := fun w5 => NetIs B (fun _ => False) w5 r (.slice none ([] : List S29).length 0) [] ∧ w5.heap[gm]? = some (.cells #[.int .i64 a0, .int .i64 a1, .slice A l.length c] 29 (0, 0)) ∧ w5.heap[gx]? = some (.cells #[.int .i64 a0, .int .i64 a1, .slice (some ⟨bx, 0, none⟩) l.length cx] 29 (0, 0)) ∧ (∃ B2, Kd.R (Kd.int .u8) 5 w5 B2 (fun _ => True) (.slice (some ⟨bx, 0, none⟩) l.length cx) l) ∧ Below w.heap.size w w5) ⟨q1, q2, q3, ⟨_, q4⟩, q5⟩ (fun w5 h5 => ?_)
  clear q1 q2 q3 q4 q5
  obtain ⟨p1, p2, p3, ⟨B2, p4⟩, p5⟩ := h5
  obtain ⟨csx, hbx, hbj⟩ := byte_at p4 hj
  have hlx := blk_lt hbx
  have hrx : r ≠ bx := blk_ne p1.1 hbx (by decide)
  have hrg : r ≠ gx := blk_ne p1.1 p3 (by decide)
  have hmb : gm ≠ bx := blk_ne p2 hbx (by decide)
  have HN := Lib.hid (p1.mono (ok' := fun k => k ≠ bx) (fun _ h => h.elim))
  have HM := Lib.hid p2
  have HG := Lib.hid p3
  have HBX := Lib.hid hbx
  have HC := Lib.hid (Kd.R_reads' p4)
  have HB := Lib.hid p5
  have x0 : World.cell? w5 ⟨gx, 0, none⟩ = some (.int .i64 a0) := (blk_cell p3 0).trans rfl
  have x1 : World.cell? w5 ⟨gx, 1, none⟩ = some (.int .i64 a1) := (blk_cell p3 1).trans rfl
  have x2 : World.cell? w5 ⟨gx, 2, none⟩ = some (.slice (some ⟨bx, 0, none⟩) l.length cx) := (blk_cell p3 2).trans rfl
  clear p1 p2 p3 p4 p5 hbx
  go_upto_region 8 with (first | ((with_reducible go_at_call 10); go_must (refine (send_ok B r (fun k => k ≠ bx) none 0 [] a0 a1 _ cx l _ HN.out (fun k hk => by omega) (by decide) (by omega) HC.out.2.2 HC.out.2.1).mono ?_; rintro e w' ⟨rfl, v', hn, hb, hk⟩; obtain ⟨ao, cp, rfl⟩ := Kd.S_slice hn.2.2; have hm_ := (hb.block gm hgm1.out).trans HM.out; have hg_ := blk_kept HG.out hk (fun h => h.elim (fun e => hrg e.symm) (fun e => by simp [Value.ownBlock] at e)); have hx_ := blk_kept HBX.out hk (fun h => h.elim (fun e => hrx e.symm) (fun e => by simp [Value.ownBlock] at e)); have hb_ := below_weaken HB.out hbw.out hb; clear HN HM HB HG HBX x0 x1 x2; have HN := Lib.hid hn; have HM := Lib.hid hm_; have HG := Lib.hid hg_; have HBX := Lib.hid hx_; have HB := Lib.hid hb_; have x0 : World.cell? w' ⟨gx, 0, none⟩ = some (.int .i64 a0) := (blk_cell hg_ 0).trans rfl; have x1 : World.cell? w' ⟨gx, 1, none⟩ = some (.int .i64 a1) := (blk_cell hg_ 1).trans rfl; have x2 : World.cell? w' ⟨gx, 2, none⟩ = some (.slice (some ⟨bx, 0, none⟩) l.length cx) := (blk_cell hg_ 2).trans rfl; have z2 := True.intro; have zj : w'.cell? ⟨bx, j, none⟩ = some (.int .u8 (rd l j)) := (blk_cell hx_ j).trans hbj; have zf := blk_frozen hx_ j; clear hn hb hk hm_ hg_ hx_ hb_)))
  refine world_gen (P := fun w8 => NetIs B (fun _ => True) w8 r (.slice ao ([] ++ [(⟨a0, a1, l⟩ : S29)]).length cp) ([] ++ [⟨a0, a1, l⟩]) ∧ w8.heap[gm]? = some (.cells #[.int .i64 a0, .int .i64 a1, .slice A l.length c] 29 (0, 0)) ∧ Below w.heap.size w w8) ⟨(HN.out.far (p := ⟨bx, j, none⟩) hrx (fun _ hk => hk) _).mono (fun _ _ => trivial), blk_far (p := ⟨bx, j, none⟩) HM.out hmb _, below_set HB.out hbxw.out⟩ (fun w8 h8 => ?_)
  clear HN HM HB HG HBX HC x0 x1 x2 z2 zj zf hbj hrx hrg hmb hlx hbxw
  obtain ⟨p1, p2, p3⟩ := h8
  have HN := Lib.hid p1
  have HM := Lib.hid p2
  have HB := Lib.hid p3
  obtain ⟨S8, hS8⟩ : ∃ S, S = w8.heap.size := ⟨_, rfl⟩
  clear p1 p2 p3
  go_upto_region 9 with (first | ((with_reducible go_at_call 14); go_must (refine (look_ok B r 0 (fun _ => True) ao cp _ ⟨a0, a1, l⟩ _ HN.out rfl (show l.length ≤ 65536 by omega)).mono ?_; rintro e w' ⟨vb, rfl, hv, hb⟩; obtain ⟨Ay, cy, rfl⟩ := Kd.R_slice hv; have hn_ := (HN.out.old hb).mono (ok' := fun k => k < S8) (fun k hk => by rw [hS8]; exact hk.2); have hm_ := blk_below HM.out hb; have hS8w := Lib.hid (show w.heap.size ≤ S8 by rw [hS8]; exact HB.out.size); have hS8l := Lib.hid (show S8 ≤ w'.heap.size by rw [hS8]; exact hb.size); have hb_ := below_step HB.out hb; rw [← hS8] at hv; clear HN HM HB; have HN := Lib.hid hn_; have HM := Lib.hid hm_; have HB := Lib.hid hb_; have HV := Lib.hid hv; clear hn_ hm_ hb_ hv hb)) | ((with_reducible refine gate_dst (N := 8) rfl ?_); refine box_event ?hg (N := 8) ?hd (cs := #[.int .i64 0, .int .i64 0, .slice none 0 0]) (t := 29) ?hr ?_; (case hd => rfl); (case hg => rfl); (case hr => first | (go_simp; done) | (go_simp; rfl)); intro gb hg w1 hbox hb; obtain ⟨gy, rfl⟩ : ∃ g, g = gb := ⟨_, rfl⟩; have hv_ := Kd.R_below HV.out hb; have hn_ := HN.out.kept hb; have hm_ := blk_below HM.out hb; have hb_ := below_step HB.out hb; have hmy := Lib.hid (Nat.ne_of_lt (Nat.lt_of_lt_of_le (blk_lt HM.out) (Nat.le_of_eq hg.symm))); have hwy := Lib.hid (Nat.le_trans HB.out.size (Nat.le_of_eq hg.symm)); have hSy := Lib.hid (Nat.le_trans hS8l.out (Nat.le_of_eq hg.symm)); clear HN HM HB HV; have HN := Lib.hid hn_; have HM := Lib.hid hm_; have HB := Lib.hid hb_; have HV := Lib.hid hv_; have HY := Lib.hid hbox; have y0 : World.cell? w1 ⟨gy, 0, none⟩ = some (.int .i64 0) := (blk_cell hbox 0).trans rfl; have yf0 := blk_frozen hbox 0; have y1 : World.cell? w1 ⟨gy, 1, none⟩ = some (.int .i64 0) := (blk_cell hbox 1).trans rfl; have yf1 := blk_frozen hbox 1; have y2 : World.cell? w1 ⟨gy, 2, none⟩ = some (.slice none 0 0) := (blk_cell hbox 2).trans rfl; have yf2 := blk_frozen hbox 2; clear hv_ hn_ hm_ hb_ hbox hg hb))
  obtain ⟨by_, cy1, hye, _, _, _⟩ := Kd.R_form HV.out (by omega)
  simp only [Value.slice.injEq] at hye
  obtain ⟨rfl, _, rfl⟩ := hye
  have hby := Lib.hid (Kd.R_base HV.out _ rfl)
  obtain ⟨q1, q2, q3, q4, q5⟩ := store_x HN.out HM.out HY.out HV.out HB.out hmy.out hwy.out (fun k h => Nat.ne_of_lt (Nat.lt_of_lt_of_le h hSy.out)) (.int .i64 a0) (.int .i64 a1) (.slice (some ⟨by_, 0, none⟩) l.length cy)
  clear HN HM HB HV HY y0 y1 y2 yf0 yf1 yf2
  refine world_gen (P := fun w9 => NetIs B (fun k => k < S8) w9 r (.slice ao ([] ++ [(⟨a0, a1, l⟩ : S29)]).length cp) ([] ++ [⟨a0, a1, l⟩]) ∧ w9.heap[gm]? = some (.cells #[.int .i64 a0, .int .i64 a1, .slice A l.length c] 29 (0, 0)) ∧ w9.heap[gy]? = some (.cells #[.int .i64 a0, .int .i64 a1, .slice (some ⟨by_, 0, none⟩) l.length cy] 29 (0, 0)) ∧ (∃ B2, Kd.R (Kd.int .u8) 5 w9 B2 (fun _ => True) (.slice (some ⟨by_, 0, none⟩) l.length cy) l) ∧ Below w.heap.size w w9) ⟨q1, q2, q3, ⟨_, q4⟩, q5⟩ (fun w9 h9 => ?_)
  clear q1 q2 q3 q4 q5
  obtain ⟨p1, p2, p3, ⟨B3, p4⟩, p5⟩ := h9
  obtain ⟨csy, hbyc, hbj⟩ := byte_at p4 hj
  have hry : r ≠ by_ := blk_ne p1.1 hbyc (by decide)
  have hmb : gm ≠ by_ := blk_ne p2 hbyc (by decide)
  have HN := Lib.hid p1
  have HM := Lib.hid p2
  have HG := Lib.hid p3
  have HBY := Lib.hid hbyc
  have HC := Lib.hid (Kd.R_reads' p4)
  have HB := Lib.hid p5
  have hone := Lib.hid (one_true a0 a1 l (by omega))
  have hwby := Lib.hid (Nat.le_trans hS8w.out hby.out)
  have y0 : World.cell? w9 ⟨gy, 0, none⟩ = some (.int .i64 a0) := (blk_cell p3 0).trans rfl
  have y1 : World.cell? w9 ⟨gy, 1, none⟩ = some (.int .i64 a1) := (blk_cell p3 1).trans rfl
  have y2 : World.cell? w9 ⟨gy, 2, none⟩ = some (.slice (some ⟨by_, 0, none⟩) l.length cy) := (blk_cell p3 2).trans rfl
  have m0 : World.cell? w9 ⟨gm, 0, none⟩ = some (.int .i64 a0) := (blk_cell p2 0).trans rfl
  have m1 : World.cell? w9 ⟨gm, 1, none⟩ = some (.int .i64 a1) := (blk_cell p2 1).trans rfl
  have m2 : World.cell? w9 ⟨gm, 2, none⟩ = some (.slice A l.length c) := (blk_cell p2 2).trans rfl
  clear p1 p2 p3 p4 p5 hbyc
  go_upto_region 12 with (first | ((with_reducible go_at_call 15); go_must (refine (juratref24_SameOne.calls 600 a0 a1 _ cy l a0 a1 _ c l true _ HC.out.2.2 HC.out.2.1 (Kd.C_below HR.out HB.out) hc hone.out).mono ?_; rintro e w' ⟨rfl, hb⟩; have hn_ := HN.out.kept hb; have hm_ := blk_below HM.out hb; have hg_ := blk_below HG.out hb; have hy_ := blk_below HBY.out hb; have hb_ := below_step HB.out hb; clear HN HM HG HBY HB m0 m1 m2 y0 y1 y2; have HN := Lib.hid hn_; have HM := Lib.hid hm_; have HG := Lib.hid hg_; have HBY := Lib.hid hy_; have HB := Lib.hid hb_; have y0 : World.cell? w' ⟨gy, 0, none⟩ = some (.int .i64 a0) := (blk_cell hg_ 0).trans rfl; have y1 : World.cell? w' ⟨gy, 1, none⟩ = some (.int .i64 a1) := (blk_cell hg_ 1).trans rfl; have y2 : World.cell? w' ⟨gy, 2, none⟩ = some (.slice (some ⟨by_, 0, none⟩) l.length cy) := (blk_cell hg_ 2).trans rfl; have zj : w'.cell? ⟨by_, j, none⟩ = some (.int .u8 (rd l j)) := (blk_cell hy_ j).trans hbj; have zf := blk_frozen hy_ j; clear hn_ hm_ hg_ hy_ hb_ hb)))
  refine world_gen (P := fun w12 => NetIs B (fun _ => True) w12 r (.slice ao ([] ++ [(⟨a0, a1, l⟩ : S29)]).length cp) ([] ++ [⟨a0, a1, l⟩]) ∧ w12.heap[gm]? = some (.cells #[.int .i64 a0, .int .i64 a1, .slice A l.length c] 29 (0, 0)) ∧ Below w.heap.size w w12) ⟨(HN.out.far (p := ⟨by_, j, none⟩) hry (fun k hk => Nat.ne_of_lt (Nat.lt_of_lt_of_le hk hby.out)) _).mono (fun _ _ => trivial), blk_far (p := ⟨by_, j, none⟩) HM.out hmb _, below_set HB.out hwby.out⟩ (fun w12 h12 => ?_)
  clear HN HM HB HG HBY HC y0 y1 y2 zj zf hbj hry hmb
  obtain ⟨p1, p2, p3⟩ := h12
  have HN := Lib.hid p1
  have HM := Lib.hid p2
  have HB := Lib.hid p3
  clear p1 p2 p3
  go_upto_region 15 with (first | ((with_reducible go_at_call 12); go_must (refine (twice_ok B r 0 (fun _ => True) ao cp _ ⟨a0, a1, l⟩ _ HN.out rfl (show l.length ≤ 65536 by omega) (fun _ _ => trivial) (by simp)).mono ?_; rintro e w' ⟨rfl, v', hn, hb, hk⟩; obtain ⟨ao2, cp2, rfl⟩ := Kd.S_slice hn.2.2; have hm_ := (hb.block gm hgm1.out).trans HM.out; have hb_ := below_weaken HB.out hbw.out hb; clear HN HM HB; have HN2 := Lib.hid hn; have HM := Lib.hid hm_; have HB := Lib.hid hb_; clear hn hb hk hm_ hb_)) | ((with_reducible go_at_call 16); go_must (refine (spoil_ok B r 1 j (fun _ => True) ao2 cp2 _ ⟨a0, a1, l⟩ 1 _ HN2.out rfl hj (show l.length ≤ 65536 by omega)).mono ?_; rintro e w' ⟨rfl, hn, hb⟩; have hm_ := (hb.block gm hgm1.out).trans HM.out; have hb_ := below_weaken HB.out hbw.out hb; clear HN2 HM HB; have HN3 := Lib.hid hn; have HM := Lib.hid hm_; have HB := Lib.hid hb_; clear hn hb hm_ hb_)) | ((with_reducible go_at_call 17); go_must (refine (all_ok B r (fun _ => True) ao2 _ cp2 _ _ HN3.out).mono ?_; rintro e w' ⟨rfl, hs, _, hb⟩; have hm_ := (hb.block gm hgm1.out).trans HM.out; have hb_ := below_weaken HB.out hbw.out hb; clear HN3 HM HB; have HS := Lib.hid hs; have HM := Lib.hid hm_; have HB := Lib.hid hb_; clear hs hb hm_ hb_)))
  obtain ⟨b, off, A1, c1_, _, hae, hE0, hl0, hC0⟩ := S_at HS.out (k := 0) (p := ⟨a0, a1, l⟩) rfl
  obtain ⟨b', off', A3, c3, _, hae', hE1, hl1, hC1⟩ := S_at HS.out (k := 1) (p := ⟨a0, a1, l.set j (Go.bits .xor .u8 (rd l j) 1)⟩) rfl
  obtain rfl := hae
  simp only [Option.some.injEq, Addr.mk.injEq] at hae'
  obtain ⟨rfl, rfl, _⟩ := hae'
  clear hS8 hBe hbB
  have htwo := Lib.hid (one_false a0 a1 l (by omega) HB8.out j hj)
  obtain ⟨e0, e1, e2⟩ := hE0
  obtain ⟨e3, e4, e5⟩ := hE1
  simp only [Nat.zero_mul, Nat.add_zero, Nat.one_mul, List.length_set] at e0 e1 e2 e3 e4 e5
  have HSC : Hid (World.cell? w' ⟨b, off, none⟩ = some (.int .i64 a0) ∧ World.cell? w' ⟨b, off + 1, none⟩ = some (.int .i64 a1) ∧ World.cell? w' ⟨b, off + 2, none⟩ = some (.slice A1 l.length c1_) ∧ World.cell? w' ⟨b, off + 3, none⟩ = some (.int .i64 a0) ∧ World.cell? w' ⟨b, off + 3 + 1, none⟩ = some (.int .i64 a1) ∧ World.cell? w' ⟨b, off + 3 + 2, none⟩ = some (.slice A3 l.length c3) ∧ World.cell? w' ⟨b, off + 4, none⟩ = some (.int .i64 a1) ∧ World.cell? w' ⟨b, off + 5, none⟩ = some (.slice A3 l.length c3) ∧ World.cell? w' ⟨gm, 0, none⟩ = some (.int .i64 a0) ∧ World.cell? w' ⟨gm, 1, none⟩ = some (.int .i64 a1) ∧ World.cell? w' ⟨gm, 2, none⟩ = some (.slice A l.length c)) := Lib.hid ⟨e0, e1, e2, e3, e4, e5, e4, e5, (blk_cell HM.out 0).trans rfl, (blk_cell HM.out 1).trans rfl, (blk_cell HM.out 2).trans rfl⟩
  have HC0 : Hid (Kd.C (Kd.int .u8) w' A1 l.length l) := Lib.hid hC0
  have HC1 : Hid (Kd.C (Kd.int .u8) w' A3 (l.set j (Go.bits .xor .u8 (rd l j) 1)).length (l.set j (Go.bits .xor .u8 (rd l j) 1))) := Lib.hid hC1
  have HL0 : Hid (l.length ≤ c1_) := Lib.hid hl0
  have HL1 : Hid ((l.set j (Go.bits .xor .u8 (rd l j) 1)).length ≤ c3) := Lib.hid hl1
  clear e0 e1 e2 e3 e4 e5 hC0 hC1 hl0 hl1
  have T1 : ∀ W : World, Kd.C (Kd.int .u8) W A1 l.length l → Kd.C (Kd.int .u8) W A l.length l → Calls Try.prog 15 #[.agg #[.int .i64 a0, .int .i64 a1, .slice A1 l.length c1_], .agg #[.int .i64 a0, .int .i64 a1, .slice A l.length c]] W fun e w2 => e = .returned (.bool true) ∧ Below W.heap.size W w2 :=
    fun W h1 h2 => same_at 600 a0 a1 A1 c1_ l l.length a0 a1 A c l true W rfl h1 HL0.out h2 hc hone.out
  have T2 : ∀ W : World, Kd.C (Kd.int .u8) W A3 (l.set j (Go.bits .xor .u8 (rd l j) 1)).length (l.set j (Go.bits .xor .u8 (rd l j) 1)) → Kd.C (Kd.int .u8) W A l.length l → Calls Try.prog 15 #[.agg #[.int .i64 a0, .int .i64 a1, .slice A3 l.length c3], .agg #[.int .i64 a0, .int .i64 a1, .slice A l.length c]] W fun e w2 => e = .returned (.bool false) ∧ Below W.heap.size W w2 :=
    fun W h1 h2 => same_at 600 a0 a1 A3 c3 (l.set j (Go.bits .xor .u8 (rd l j) 1)) l.length a0 a1 A c l false W (List.length_set ..).symm h1 HL1.out h2 hc htwo.out
  go_region_held3 (fun w' => w'.cell? ⟨b, off, none⟩ = some (.int .i64 a0) ∧ w'.cell? ⟨b, off + 1, none⟩ = some (.int .i64 a1) ∧ w'.cell? ⟨b, off + 2, none⟩ = some (.slice A1 l.length c1_) ∧ w'.cell? ⟨b, off + 3, none⟩ = some (.int .i64 a0) ∧ w'.cell? ⟨b, off + 3 + 1, none⟩ = some (.int .i64 a1) ∧ w'.cell? ⟨b, off + 3 + 2, none⟩ = some (.slice A3 l.length c3) ∧ w'.cell? ⟨b, off + 4, none⟩ = some (.int .i64 a1) ∧ w'.cell? ⟨b, off + 5, none⟩ = some (.slice A3 l.length c3) ∧ w'.cell? ⟨gm, 0, none⟩ = some (.int .i64 a0) ∧ w'.cell? ⟨gm, 1, none⟩ = some (.int .i64 a1) ∧ w'.cell? ⟨gm, 2, none⟩ = some (.slice A l.length c)) (first | with_reducible exact HSC.out | (simp only [World.cell?_drew, World.cell?_drewN]; with_reducible exact HSC.out)) (first | ((with_reducible go_at_call 15); with_reducible refine (T1 _ (by first | with_reducible exact HC0.out | (with_reducible apply Kd.C_drew; with_reducible exact HC0.out)) (by first | with_reducible exact (Kd.C_below HR.out HB.out) | (with_reducible apply Kd.C_drew; with_reducible exact (Kd.C_below HR.out HB.out)))).mono ?_; rintro e w2 ⟨rfl, hb⟩; have hs_ : World.cell? w2 ⟨b, off, none⟩ = some (.int .i64 a0) ∧ World.cell? w2 ⟨b, off + 1, none⟩ = some (.int .i64 a1) ∧ World.cell? w2 ⟨b, off + 2, none⟩ = some (.slice A1 l.length c1_) ∧ World.cell? w2 ⟨b, off + 3, none⟩ = some (.int .i64 a0) ∧ World.cell? w2 ⟨b, off + 3 + 1, none⟩ = some (.int .i64 a1) ∧ World.cell? w2 ⟨b, off + 3 + 2, none⟩ = some (.slice A3 l.length c3) ∧ World.cell? w2 ⟨b, off + 4, none⟩ = some (.int .i64 a1) ∧ World.cell? w2 ⟨b, off + 5, none⟩ = some (.slice A3 l.length c3) ∧ World.cell? w2 ⟨gm, 0, none⟩ = some (.int .i64 a0) ∧ World.cell? w2 ⟨gm, 1, none⟩ = some (.int .i64 a1) ∧ World.cell? w2 ⟨gm, 2, none⟩ = some (.slice A l.length c) := (by obtain ⟨f0, f1, f2, f3, f4, f5, f6, f7, f8, f9, f10⟩ := HSC.out; first | with_reducible exact ⟨cell_below hb f0, cell_below hb f1, cell_below hb f2, cell_below hb f3, cell_below hb f4, cell_below hb f5, cell_below hb f6, cell_below hb f7, cell_below hb f8, cell_below hb f9, cell_below hb f10⟩ | with_reducible exact ⟨cell_below_d hb f0, cell_below_d hb f1, cell_below_d hb f2, cell_below_d hb f3, cell_below_d hb f4, cell_below_d hb f5, cell_below_d hb f6, cell_below_d hb f7, cell_below_d hb f8, cell_below_d hb f9, cell_below_d hb f10⟩); have h0_ : Kd.C (Kd.int .u8) w2 A1 l.length l := (by first | exact Kd.C_below HC0.out hb | exact Kd.C_below (Kd.C_drew HC0.out) hb); have h1_ : Kd.C (Kd.int .u8) w2 A3 (l.set j (Go.bits .xor .u8 (rd l j) 1)).length (l.set j (Go.bits .xor .u8 (rd l j) 1)) := (by first | exact Kd.C_below HC1.out hb | exact Kd.C_below (Kd.C_drew HC1.out) hb); have hb_ : Below w.heap.size w w2 := (by first | exact below_step HB.out hb | exact below_step (below_drew1 HB.out) hb); clear HSC HC0 HC1 HB; have HSC := Lib.hid hs_; have HC0 := Lib.hid h0_; have HC1 := Lib.hid h1_; have HB := Lib.hid hb_; clear hs_ h0_ h1_ hb_ hb) | ((with_reducible go_at_call 15); with_reducible refine (T2 _ (by first | with_reducible exact HC1.out | (with_reducible apply Kd.C_drew; with_reducible exact HC1.out)) (by first | with_reducible exact (Kd.C_below HR.out HB.out) | (with_reducible apply Kd.C_drew; with_reducible exact (Kd.C_below HR.out HB.out)))).mono ?_; rintro e w2 ⟨rfl, hb⟩; have hs_ : World.cell? w2 ⟨b, off, none⟩ = some (.int .i64 a0) ∧ World.cell? w2 ⟨b, off + 1, none⟩ = some (.int .i64 a1) ∧ World.cell? w2 ⟨b, off + 2, none⟩ = some (.slice A1 l.length c1_) ∧ World.cell? w2 ⟨b, off + 3, none⟩ = some (.int .i64 a0) ∧ World.cell? w2 ⟨b, off + 3 + 1, none⟩ = some (.int .i64 a1) ∧ World.cell? w2 ⟨b, off + 3 + 2, none⟩ = some (.slice A3 l.length c3) ∧ World.cell? w2 ⟨b, off + 4, none⟩ = some (.int .i64 a1) ∧ World.cell? w2 ⟨b, off + 5, none⟩ = some (.slice A3 l.length c3) ∧ World.cell? w2 ⟨gm, 0, none⟩ = some (.int .i64 a0) ∧ World.cell? w2 ⟨gm, 1, none⟩ = some (.int .i64 a1) ∧ World.cell? w2 ⟨gm, 2, none⟩ = some (.slice A l.length c) := (by obtain ⟨f0, f1, f2, f3, f4, f5, f6, f7, f8, f9, f10⟩ := HSC.out; first | with_reducible exact ⟨cell_below hb f0, cell_below hb f1, cell_below hb f2, cell_below hb f3, cell_below hb f4, cell_below hb f5, cell_below hb f6, cell_below hb f7, cell_below hb f8, cell_below hb f9, cell_below hb f10⟩ | with_reducible exact ⟨cell_below_d hb f0, cell_below_d hb f1, cell_below_d hb f2, cell_below_d hb f3, cell_below_d hb f4, cell_below_d hb f5, cell_below_d hb f6, cell_below_d hb f7, cell_below_d hb f8, cell_below_d hb f9, cell_below_d hb f10⟩); have h0_ : Kd.C (Kd.int .u8) w2 A1 l.length l := (by first | exact Kd.C_below HC0.out hb | exact Kd.C_below (Kd.C_drew HC0.out) hb); have h1_ : Kd.C (Kd.int .u8) w2 A3 (l.set j (Go.bits .xor .u8 (rd l j) 1)).length (l.set j (Go.bits .xor .u8 (rd l j) 1)) := (by first | exact Kd.C_below HC1.out hb | exact Kd.C_below (Kd.C_drew HC1.out) hb); have hb_ : Below w.heap.size w w2 := (by first | exact below_step HB.out hb | exact below_step (below_drew1 HB.out) hb); clear HSC HC0 HC1 HB; have HSC := Lib.hid hs_; have HC0 := Lib.hid h0_; have HC1 := Lib.hid h1_; have HB := Lib.hid hb_; clear hs_ h0_ h1_ hb_ hb) | ((with_reducible go_at_call 8); with_reducible refine (awake_ok _).mono ?_; rintro e w2 ⟨rfl, hb⟩; have hs_ : World.cell? w2 ⟨b, off, none⟩ = some (.int .i64 a0) ∧ World.cell? w2 ⟨b, off + 1, none⟩ = some (.int .i64 a1) ∧ World.cell? w2 ⟨b, off + 2, none⟩ = some (.slice A1 l.length c1_) ∧ World.cell? w2 ⟨b, off + 3, none⟩ = some (.int .i64 a0) ∧ World.cell? w2 ⟨b, off + 3 + 1, none⟩ = some (.int .i64 a1) ∧ World.cell? w2 ⟨b, off + 3 + 2, none⟩ = some (.slice A3 l.length c3) ∧ World.cell? w2 ⟨b, off + 4, none⟩ = some (.int .i64 a1) ∧ World.cell? w2 ⟨b, off + 5, none⟩ = some (.slice A3 l.length c3) ∧ World.cell? w2 ⟨gm, 0, none⟩ = some (.int .i64 a0) ∧ World.cell? w2 ⟨gm, 1, none⟩ = some (.int .i64 a1) ∧ World.cell? w2 ⟨gm, 2, none⟩ = some (.slice A l.length c) := (by obtain ⟨f0, f1, f2, f3, f4, f5, f6, f7, f8, f9, f10⟩ := HSC.out; first | with_reducible exact ⟨cell_below hb f0, cell_below hb f1, cell_below hb f2, cell_below hb f3, cell_below hb f4, cell_below hb f5, cell_below hb f6, cell_below hb f7, cell_below hb f8, cell_below hb f9, cell_below hb f10⟩ | with_reducible exact ⟨cell_below_d hb f0, cell_below_d hb f1, cell_below_d hb f2, cell_below_d hb f3, cell_below_d hb f4, cell_below_d hb f5, cell_below_d hb f6, cell_below_d hb f7, cell_below_d hb f8, cell_below_d hb f9, cell_below_d hb f10⟩); have h0_ : Kd.C (Kd.int .u8) w2 A1 l.length l := (by first | exact Kd.C_below HC0.out hb | exact Kd.C_below (Kd.C_drew HC0.out) hb); have h1_ : Kd.C (Kd.int .u8) w2 A3 (l.set j (Go.bits .xor .u8 (rd l j) 1)).length (l.set j (Go.bits .xor .u8 (rd l j) 1)) := (by first | exact Kd.C_below HC1.out hb | exact Kd.C_below (Kd.C_drew HC1.out) hb); have hb_ : Below w.heap.size w w2 := (by first | exact below_step HB.out hb | exact below_step (below_drew1 HB.out) hb); clear HSC HC0 HC1 HB; have HSC := Lib.hid hs_; have HC0 := Lib.hid h0_; have HC1 := Lib.hid h1_; have HB := Lib.hid hb_; clear hs_ h0_ h1_ hb_ hb))
  all_goals
    go_wp2

    go_ret
    exact ⟨rfl, HB.out⟩
end Go.Proofs.Ytglhojkchpbnkaa.NetOwn
