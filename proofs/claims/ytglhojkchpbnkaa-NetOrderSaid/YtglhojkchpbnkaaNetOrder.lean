/- PROVED: the law NetOrder: the walk. No condition. -/
import Derived.Test.YtglhojkchpbnkaaNetOwn
import Derived.Test.YtglhojkchpbnkaaNetTake
import Derived.Test.YtglhojkchpbnkaaPNetOrderx2
import Derived.WalkKit
import Derived.WalkSpells
import Derived.WalkLawsBesides
import Derived.Outline
import Derived.Lib.Hide
import Derived.Deep.LoopGhost
import Derived.Deep.RegionHeld3
import Derived.Deep.DeepCutAuto
import Derived.Deep.RegionLaw
import Derived.BigQuiet
import Derived.Deep.QuietTactic
namespace Go.Proofs.Ytglhojkchpbnkaa.NetOrder
open Go.RowKit Go.Proofs.Ytglhojkchpbnkaa.PNetOwn Go.Proofs.Ytglhojkchpbnkaa.Net2 Go.Proofs.YtglhojkchpbnkaaW.PrintWords Go.Proofs.YtglhojkchpbnkaaW.PrintLast Go.Proofs.YtglhojkchpbnkaaW.PrintMore
open Go.Proofs.Ytglhojkchpbnkaa.Net (own_is info29 k29_types at_in len_is look_fin)
open Go.Proofs.Ytglhojkchpbnkaa.NetAwake (world_gen awake_ok)
open Go.Proofs.Ytglhojkchpbnkaa.NetOwn (new_any copy_is one_true same_at)
open Go.Proofs.Ytglhojkchpbnkaa.NetTake (take_ok cell_below)
set_option linter.unusedSimpArgs false
set_option linter.unusedVariables false
/-- A message as the other print has it. -/
def turn (p : S29) : PNetOrder.S29 := ⟨p.f0, p.f1, p.f2⟩
theorem C_turn {w : World} {A : Option Addr} {n : Nat} {ms : List S29} (h : Kd.C k29 w A n ms) : Kd.C PNetOrder.k29 w A n (ms.map turn) := by
  obtain ⟨h1, h2, h3⟩ := h
  refine ⟨by simpa using h1, h2, fun hn => ?_⟩
  obtain ⟨ad, e, h4⟩ := h3 hn
  refine ⟨ad, e, fun j p hp => ?_⟩
  rw [List.getElem?_map, Option.map_eq_some_iff] at hp
  obtain ⟨q, hq, rfl⟩ := hp
  obtain ⟨c, hc, hK, hcell⟩ := h4 j q hq
  exact ⟨c, hc, hK, hcell⟩
theorem w_in {n : Int} (h : -9223372036854775808 ≤ n) (h' : n ≤ 9223372036854775807) : wrap64 n = n := by
  unfold wrap64
  omega
theorem same_l (l : List Int) (hm : l.length ≤ 65536) (d : Nat) : ∀ (k : Nat) (i : Int), 0 ≤ i → i ≤ (l.length : Int) → (l.length : Int) - i = d → d < k → PNetOrder.juratref01_Same.l0 k l l i = some true := by
  induction d with
  | zero =>
    intro k i i0 i1 hd hk
    obtain ⟨k, rfl⟩ : ∃ m, k = m + 1 := ⟨k - 1, by omega⟩
    rw [PNetOrder.juratref01_Same.l0, if_neg (by omega)]
  | succ d ih =>
    intro k i i0 i1 hd hk
    obtain ⟨k, rfl⟩ : ∃ m, k = m + 1 := ⟨k - 1, by omega⟩
    rw [PNetOrder.juratref01_Same.l0, if_pos (by omega), if_pos i0, if_pos (by omega), if_pos rfl, w_in (by omega) (by omega)]
    exact ih k (i + 1) (by omega) (by omega) (by omega) (by omega)
theorem one_true' (k : Nat) (a b : Int) (l : List Int) (hl : l.length ≤ 500) (hk : 500 < k) : PNetOrder.juratref24_SameOne.f k a b l a b l = some true := by
  unfold PNetOrder.juratref24_SameOne.f
  rw [if_pos rfl, if_pos rfl]
  unfold PNetOrder.juratref01_Same.f
  rw [if_pos rfl, same_l l (by omega) l.length k 0 (by omega) (by omega) (by omega) (by omega)]
  rfl
theorem all_l (l : List PNetOrder.S29) (hm : l.length ≤ 80) (hl : ∀ p ∈ l, p.f2.length ≤ 500) (d : Nat) : ∀ (k : Nat) (i : Int), 0 ≤ i → i ≤ (l.length : Int) → (l.length : Int) - i = d → d + 501 < k → PNetOrder.juratref24_Same.l0 k l l i = some true := by
  induction d with
  | zero =>
    intro k i i0 i1 hd hk
    obtain ⟨k, rfl⟩ : ∃ m, k = m + 1 := ⟨k - 1, by omega⟩
    rw [PNetOrder.juratref24_Same.l0, if_neg (by omega)]
  | succ d ih =>
    intro k i i0 i1 hd hk
    obtain ⟨k, rfl⟩ : ∃ m, k = m + 1 := ⟨k - 1, by omega⟩
    have hp : (PNetOrder.rd_T29 l i).f2.length ≤ 500 := by
      unfold PNetOrder.rd_T29
      rw [List.getD, List.getElem?_eq_getElem (show i.toNat < l.length by omega)]
      exact hl _ (List.getElem_mem _)
    rw [PNetOrder.juratref24_Same.l0, if_pos (by omega), if_pos i0, if_pos (by omega), one_true' k _ _ _ hp (by omega)]
    simp only [Option.bind_some, if_true]
    rw [w_in (by omega) (by omega)]
    exact ih k (i + 1) (by omega) (by omega) (by omega) (by omega)
theorem same_all (A0 : Option Addr) (n0 c0 : Nat) (A1 : Option Addr) (c1 : Nat) (l : List S29) (w : World) (hn : n0 = l.length) (h80 : l.length ≤ 80) (h5 : ∀ p ∈ l, p.f2.length ≤ 500) (h0 : Kd.C k29 w A0 l.length l) (hc0 : l.length ≤ c0) (h1 : Kd.C k29 w A1 l.length l) (hc1 : l.length ≤ c1) :
    Calls Try.prog 18 #[.slice A0 n0 c0, .slice A1 l.length c1] w fun e w' => e = .returned (.bool true) ∧ Below w.heap.size w w' := by
  subst hn
  have hf : PNetOrder.juratref24_Same.f 700 (l.map turn) (l.map turn) = some true := by
    unfold PNetOrder.juratref24_Same.f
    rw [if_pos rfl]
    exact all_l _ (by simpa using h80) (by intro p hp; rw [List.mem_map] at hp; obtain ⟨q, hq, rfl⟩ := hp; exact h5 q hq) l.length _ 0 (by omega) (by omega) (by simp) (by omega)
  have := PNetOrder.juratref24_Same.calls 700 A0 c0 (l.map turn) A1 c1 (l.map turn) true w (by simpa using C_turn h0) (by simpa using hc0) (by simpa using C_turn h1) (by simpa using hc1) hf
  simpa using this
set_option maxHeartbeats 4000000 in
set_option maxRecDepth 100000 in
theorem order_walk (A : Option Addr) (cap0 : Nat) (ls : List S29) (all : Bool) (w : World) (hC : Kd.C k29 w A ls.length ls) (hcap0 : ls.length ≤ cap0) :
    Calls Try.prog 5 #[.slice A ls.length cap0, .bool all] w fun e w' => e = .returned (.bool true) ∧ Below w.heap.size w w' := by
  have HC := Lib.hid hC
  clear hC
  by_cases c1 : 80 < ls.length
  · have c1' : (80 : Int) < ls.length := by omega
    go_enter Try.func5, Try.ntmps5
    go_wp2_with (first | ((with_reducible go_at_call 8); go_must (refine (awake_ok _).mono ?_; rintro e w' ⟨rfl, hb⟩; have HB := Lib.hid hb; clear hb)))
    go_ret
    exact ⟨rfl, HB.out⟩
  have h80 : ls.length ≤ 80 := by omega
  have c1' : (ls.length : Int) ≤ 80 := by omega
  clear c1
  have hel : ∃ b off, ∀ k p, ls[k]? = some p → A = some ⟨b, off, none⟩ ∧ ∃ A2 c2, p.f2.length ≤ c2 ∧ Kd.C (Kd.int .u8) w A2 p.f2.length p.f2 ∧ w.cell? ⟨b, off + k * 3, none⟩ = some (.int .i64 p.f0) ∧ w.cell? ⟨b, off + k * 3 + 1, none⟩ = some (.int .i64 p.f1) ∧ w.cell? ⟨b, off + k * 3 + 2, none⟩ = some (.slice A2 p.f2.length c2) := by
    rcases Nat.eq_zero_or_pos ls.length with h0 | h0
    · exact ⟨0, 0, fun k p hp => by have := (List.getElem?_eq_some_iff.1 hp).1; omega⟩
    · obtain ⟨b, off, hA, _, hel⟩ := LRead.C_addr HC.out (by decide) h0
      refine ⟨b, off, fun k p hp => ⟨hA, ?_⟩⟩
      obtain ⟨c, hc, hK, hcell⟩ := hel k p hp
      obtain ⟨A2, c2, rfl, l2, g2⟩ := k29_open hK
      exact ⟨A2, c2, l2, g2, hcell 0 _ rfl, hcell 1 _ rfl, hcell 2 _ rfl⟩
  obtain ⟨b, off, hel⟩ := hel
  have HE := Lib.hid hel
  clear hel
  cases all
  · go_enter Try.func5, Try.ntmps5
    go_upto_region 5 with (first | ((with_reducible go_at_call 9); go_must (refine (new_any _).mono ?_; rintro e w' ⟨r, rfl, hn, hb⟩; have HN := Lib.hid (hn.mono (ok' := fun _ => True) (fun _ _ => trivial)); have HB := Lib.hid hb; clear hn hb)))
    go_loopw [6] (fun u6 wr => ∃ (k : Nat) (ao : Option Addr) (cap : Nat) (ns : List S29), u6 = .int .i64 k ∧ k ≤ ls.length ∧ Hid (NetIs w.heap.size (fun _ => True) wr r (.slice ao ns.length cap) ns) ∧ Hid (Below w.heap.size w wr) ∧ Hid (ns = ls.take k) ∧ Hid (∀ p ∈ ns, p.f2.length ≤ 500)) (fun u6 _ => ls.length - (intOf u6).toNat)
    case atStart => exact ⟨0, _, _, _, rfl, Nat.zero_le _, HN, HB, Lib.hid (by simp), Lib.hid (by simp)⟩
    clear HN HB
    obtain ⟨k, ao, cap, ns, rfl, hk, HN, HB, HT, H5⟩ := hrel
    by_cases hlt : k < ls.length
    · have hlt' : (k : Int) < ls.length := by omega
      obtain ⟨p, hp⟩ : ∃ p, ls[k]? = some p := ⟨_, List.getElem?_eq_getElem hlt⟩
      obtain ⟨rfl, A2, c2, hc2, hC2, e0, e1, e2⟩ := HE.out k p hp
      have e0 := cell_below HB.out e0
      have e1 := cell_below HB.out e1
      have e2 := cell_below HB.out e2
      have HC2 := Lib.hid (Kd.C_below hC2 HB.out)
      clear hC2
      have hns : ns.length < 512 := by rw [HT.out]; simp; omega
      have hpt : Hid (ls.take (k + 1) = ns ++ [p]) := Lib.hid (by rw [HT.out, List.take_add_one, hp]; rfl)
      clear hp
      by_cases h5 : 500 < p.f2.length
      · have h5' : (500 : Int) < p.f2.length := by omega
        go_wp2_with (first | ((with_reducible go_at_call 8); go_must (refine (awake_ok _).mono ?_; rintro e w' ⟨rfl, hb⟩; have hb_ := below_step HB.out hb; clear HB; have HB := Lib.hid hb_; clear hb_ hb)))
        go_ret
        exact ⟨rfl, HB.out⟩
      · have h5' : (p.f2.length : Int) ≤ 500 := by omega
        have hp5 : p.f2.length ≤ 500 := by omega
        have hp6 : p.f2.length ≤ 65536 := by omega
        have hcp := Lib.hid (copy_is p.f0 p.f1 p.f2 hp6)
        clear h5
        go_wp2_with (first | ((with_reducible go_at_call 13); go_must (refine (juratref24_Copy.calls p.f0 p.f1 A2 c2 p.f2 p.f0 p.f1 p.f2 _ HC2.out hc2 hcp.out).mono ?_; rintro e w' ⟨v2, rfl, hr2, hb⟩; obtain ⟨Ax, cx, rfl⟩ := Kd.R_slice hr2; have HX := Lib.hid (Kd.R_reads' hr2); have hn_ := HN.out.kept hb; have hb_ := below_step HB.out hb; clear HN HB hr2 hb; have HN := Lib.hid hn_; have HB := Lib.hid hb_; clear hn_ hb_)) | ((with_reducible go_at_call 10); go_must (refine (send_ok w.heap.size r (fun _ => True) ao cap ns p.f0 p.f1 Ax cx p.f2 _ HN.out (fun _ _ => trivial) hns hp6 HX.out.2.2 HX.out.2.1).mono ?_; rintro e w' ⟨rfl, v', hn, hb, hk_⟩; obtain ⟨ao', cp', rfl⟩ := Kd.S_slice hn.2.2; have hb_ := HB.out.trans hb; clear HN HB; have HN := Lib.hid hn; have HB := Lib.hid hb_; clear hn hb_ hb hk_)))
        exact ⟨⟨k + 1, _, _, _, by go_num, by omega, HN, HB, Lib.hid hpt.out.symm, Lib.hid (by intro q hq; rw [List.mem_append, List.mem_singleton] at hq; rcases hq with hq | rfl; exact H5.out q hq; exact hp5)⟩, by simp [intOf]; omega⟩
    · have hlt' : (ls.length : Int) ≤ k := by omega
      have hke : Hid (k = ls.length) := Lib.hid (by omega)
      have hnl : Hid (ls = ns) := Lib.hid (by rw [HT.out, hke.out, List.take_length])
      clear HT hke
      obtain rfl := hnl.out
      clear hnl
      go_upto_region 14 with (first | fail)
      go_loopw [7] (fun u7 wr => ∃ (k n : Nat) (ao : Option Addr) (cap : Nat) (ms : List S29), u7 = .int .i64 k ∧ n + k = ls.length ∧ Hid (NetIs w.heap.size (fun _ => True) wr r (.slice ao n cap) ms) ∧ Hid (Below w.heap.size w wr) ∧ Hid (ms = ls.drop k)) (fun u7 _ => ls.length - (intOf u7).toNat)
      case atStart => exact ⟨0, _, _, _, _, rfl, Nat.add_zero _, HN, HB, Lib.hid (by simp)⟩
      clear HN HB
      obtain ⟨k, n, ao, cap, ns, rfl, hk, HN, HB, HT⟩ := hrel
      rcases n with _ | m
      · have hlt' : (ls.length : Int) ≤ k := by omega
        go_wp2_with (first | ((with_reducible go_at_call 11); go_must (refine (len_is _ 0 _ _ _ HN.out.cell).mono ?_; rintro e w' ⟨rfl, rfl⟩)) | ((with_reducible go_at_call 8); go_must (refine (awake_ok _).mono ?_; rintro e w' ⟨rfl, hb⟩; have hb_ := below_step HB.out hb; clear HB; have HB := Lib.hid hb_; clear hb_ hb)))
        go_ret
        exact ⟨rfl, HB.out⟩
      · have hlt : k < ls.length := by omega
        have hlt' : (k : Int) < ls.length := by omega
        obtain ⟨p, hpk⟩ : ∃ p, ls[k]? = some p := ⟨_, List.getElem?_eq_getElem hlt⟩
        obtain ⟨rfl, A2, c2, hc2, hC2, e0, e1, e2⟩ := HE.out k p hpk
        have hp : Hid (ns[0]? = some p) := Lib.hid (by rw [HT.out, List.getElem?_drop, Nat.add_zero, hpk])
        have hone := Lib.hid (one_true p.f0 p.f1 p.f2 (H5.out p (List.mem_of_getElem? hpk)))
        have hdrop : Hid (ns.eraseIdx 0 = ls.drop (k + 1)) := Lib.hid (by rw [HT.out, List.eraseIdx_zero, List.tail_drop])
        have hE := Lib.hid (And.intro e0 (And.intro e1 e2))
        clear hpk e0 e1 e2
        go_upto_region 17 with (first | ((with_reducible go_at_call 19); go_must (refine (take_ok w.heap.size r 0 m (fun _ => True) ao cap ns p _ HN.out hp.out).mono ?_; rintro e w' ⟨Ax, cx, rfl, hcx, hr2, hn, hb⟩; have HX := Lib.hid hr2; have hb_ := HB.out.trans hb; clear HN HB hr2; have HN := Lib.hid hn; have HB := Lib.hid hb_; clear hn hb_ hb)) | ((with_reducible refine gate_dst (N := 8) rfl ?_); refine box_event ?hg (N := 8) ?hd (cs := #[.int .i64 0, .int .i64 0, .slice none 0 0]) (t := 29) ?hr ?_; (case hd => rfl); (case hg => rfl); (case hr => first | (go_simp; done) | (go_simp; rfl)); intro gx hg w1 hbox hb; have hbx := Lib.hid hb; have hgx := Lib.hid hg; have HBX := Lib.hid hbox; have x0 : w1.cell? ⟨gx, 0, none⟩ = some (.int .i64 0) := (blk_cell hbox 0).trans rfl; have x1 : w1.cell? ⟨gx, 1, none⟩ = some (.int .i64 0) := (blk_cell hbox 1).trans rfl; have x2 : w1.cell? ⟨gx, 2, none⟩ = some (.slice none 0 0) := (blk_cell hbox 2).trans rfl; have xf0 := blk_frozen hbox 0; have xf1 := blk_frozen hbox 1; have xf2 := blk_frozen hbox 2; clear hbox hg hb))
        refine world_gen (P := fun w5 => NetIs w.heap.size (fun _ => True) w5 r (.slice ao m cap) (ns.eraseIdx 0) ∧ Below w.heap.size w w5 ∧ Kd.C (Kd.int .u8) w5 Ax p.f2.length p.f2 ∧ w5.heap[gx]? = some (.cells #[.int .i64 p.f0, .int .i64 p.f1, .slice Ax p.f2.length cx] 29 (0, 0))) (by
            have hq := below_set (j := 2) (v := .slice Ax p.f2.length cx) (below_set (j := 1) (v := .int .i64 p.f1) (below_set (j := 0) (v := .int .i64 p.f0) hbx.out (Nat.le_of_eq hgx.out.symm)) (Nat.le_of_eq hgx.out.symm)) (Nat.le_of_eq hgx.out.symm)
            exact ⟨HN.out.kept hq, below_step HB.out hq, Kd.C_below HX.out hq, blk_put (blk_put (blk_put HBX.out 0 _ rfl) 1 _ rfl) 2 _ rfl⟩) (fun w5 h5 => ?_)
        clear HN HB HX HBX x0 x1 x2 xf0 xf1 xf2 hbx hgx
        obtain ⟨p1, p2, p3, p4⟩ := h5
        have HN := Lib.hid p1
        have HB := Lib.hid p2
        have HX := Lib.hid p3
        have HC2 := Lib.hid (Kd.C_below hC2 p2)
        have HSC : Hid (World.cell? w5 ⟨gx, 0, none⟩ = some (.int .i64 p.f0) ∧ World.cell? w5 ⟨gx, 1, none⟩ = some (.int .i64 p.f1) ∧ World.cell? w5 ⟨gx, 2, none⟩ = some (.slice Ax p.f2.length cx) ∧ World.cell? w5 ⟨b, off + k * 3, none⟩ = some (.int .i64 p.f0) ∧ World.cell? w5 ⟨b, off + k * 3 + 1, none⟩ = some (.int .i64 p.f1) ∧ World.cell? w5 ⟨b, off + k * 3 + 2, none⟩ = some (.slice A2 p.f2.length c2)) := Lib.hid ⟨(blk_cell p4 0).trans rfl, (blk_cell p4 1).trans rfl, (blk_cell p4 2).trans rfl, cell_below p2 hE.out.1, cell_below p2 hE.out.2.1, cell_below p2 hE.out.2.2⟩
        clear p1 p2 p3 p4 hC2
        have T1 : ∀ W : World, Kd.C (Kd.int .u8) W Ax p.f2.length p.f2 → Kd.C (Kd.int .u8) W A2 p.f2.length p.f2 → Calls Try.prog 15 #[.agg #[.int .i64 p.f0, .int .i64 p.f1, .slice Ax p.f2.length cx], .agg #[.int .i64 p.f0, .int .i64 p.f1, .slice A2 p.f2.length c2]] W fun e w2 => e = .returned (.bool true) ∧ Below W.heap.size W w2 :=
          fun W h1 h2 => same_at 600 p.f0 p.f1 Ax cx p.f2 p.f2.length p.f0 p.f1 A2 c2 p.f2 true W rfl h1 hcx h2 hc2 hone.out
        go_region_held3 (fun w2 => World.cell? w2 ⟨gx, 0, none⟩ = some (.int .i64 p.f0) ∧ World.cell? w2 ⟨gx, 1, none⟩ = some (.int .i64 p.f1) ∧ World.cell? w2 ⟨gx, 2, none⟩ = some (.slice Ax p.f2.length cx) ∧ World.cell? w2 ⟨b, off + k * 3, none⟩ = some (.int .i64 p.f0) ∧ World.cell? w2 ⟨b, off + k * 3 + 1, none⟩ = some (.int .i64 p.f1) ∧ World.cell? w2 ⟨b, off + k * 3 + 2, none⟩ = some (.slice A2 p.f2.length c2)) (first | with_reducible exact HSC.out | (simp only [World.cell?_drew, World.cell?_drewN]; with_reducible exact HSC.out)) (first | ((with_reducible go_at_call 15); with_reducible refine (T1 _ (by first | with_reducible exact HX.out | (with_reducible apply Kd.C_drew; with_reducible exact HX.out)) (by first | with_reducible exact HC2.out | (with_reducible apply Kd.C_drew; with_reducible exact HC2.out))).mono ?_; rintro e w2 ⟨rfl, hb⟩; have hs_ : World.cell? w2 ⟨gx, 0, none⟩ = some (.int .i64 p.f0) ∧ World.cell? w2 ⟨gx, 1, none⟩ = some (.int .i64 p.f1) ∧ World.cell? w2 ⟨gx, 2, none⟩ = some (.slice Ax p.f2.length cx) ∧ World.cell? w2 ⟨b, off + k * 3, none⟩ = some (.int .i64 p.f0) ∧ World.cell? w2 ⟨b, off + k * 3 + 1, none⟩ = some (.int .i64 p.f1) ∧ World.cell? w2 ⟨b, off + k * 3 + 2, none⟩ = some (.slice A2 p.f2.length c2) := (by obtain ⟨f0, f1, f2, f3, f4, f5⟩ := HSC.out; first | with_reducible exact ⟨cell_below hb f0, cell_below hb f1, cell_below hb f2, cell_below hb f3, cell_below hb f4, cell_below hb f5⟩ | with_reducible exact ⟨NetOwn.cell_below_d hb f0, NetOwn.cell_below_d hb f1, NetOwn.cell_below_d hb f2, NetOwn.cell_below_d hb f3, NetOwn.cell_below_d hb f4, NetOwn.cell_below_d hb f5⟩); have hb_ : Below w.heap.size w w2 := (by first | exact below_step HB.out hb | exact below_step (below_drew1 HB.out) hb); have hn_ : NetIs w.heap.size (fun _ => True) w2 r (.slice ao m cap) (ns.eraseIdx 0) := (by first | exact HN.out.kept hb | exact NetIs.kept (w := World.drew _) HN.out hb); clear HSC HB HN HX HC2; have HSC := Lib.hid hs_; have HB := Lib.hid hb_; have HN := Lib.hid hn_; clear hs_ hb_ hn_ hb))
        all_goals
          go_wp2
          exact ⟨⟨k + 1, m, _, _, _, by go_num, by omega, HN, HB, Lib.hid hdrop.out⟩, by simp [intOf]; omega⟩
  · go_enter Try.func5, Try.ntmps5
    go_upto_region 5 with (first | ((with_reducible go_at_call 9); go_must (refine (new_any _).mono ?_; rintro e w' ⟨r, rfl, hn, hb⟩; have HN := Lib.hid (hn.mono (ok' := fun _ => True) (fun _ _ => trivial)); have HB := Lib.hid hb; clear hn hb)))
    go_loopw [6] (fun u6 wr => ∃ (k : Nat) (ao : Option Addr) (cap : Nat) (ns : List S29), u6 = .int .i64 k ∧ k ≤ ls.length ∧ Hid (NetIs w.heap.size (fun _ => True) wr r (.slice ao ns.length cap) ns) ∧ Hid (Below w.heap.size w wr) ∧ Hid (ns = ls.take k) ∧ Hid (∀ p ∈ ns, p.f2.length ≤ 500)) (fun u6 _ => ls.length - (intOf u6).toNat)
    case atStart => exact ⟨0, _, _, _, rfl, Nat.zero_le _, HN, HB, Lib.hid (by simp), Lib.hid (by simp)⟩
    clear HN HB
    obtain ⟨k, ao, cap, ns, rfl, hk, HN, HB, HT, H5⟩ := hrel
    by_cases hlt : k < ls.length
    · have hlt' : (k : Int) < ls.length := by omega
      obtain ⟨p, hp⟩ : ∃ p, ls[k]? = some p := ⟨_, List.getElem?_eq_getElem hlt⟩
      obtain ⟨rfl, A2, c2, hc2, hC2, e0, e1, e2⟩ := HE.out k p hp
      have e0 := cell_below HB.out e0
      have e1 := cell_below HB.out e1
      have e2 := cell_below HB.out e2
      have HC2 := Lib.hid (Kd.C_below hC2 HB.out)
      clear hC2
      have hns : ns.length < 512 := by rw [HT.out]; simp; omega
      have hpt : Hid (ls.take (k + 1) = ns ++ [p]) := Lib.hid (by rw [HT.out, List.take_add_one, hp]; rfl)
      clear hp
      by_cases h5 : 500 < p.f2.length
      · have h5' : (500 : Int) < p.f2.length := by omega
        go_wp2_with (first | ((with_reducible go_at_call 8); go_must (refine (awake_ok _).mono ?_; rintro e w' ⟨rfl, hb⟩; have hb_ := below_step HB.out hb; clear HB; have HB := Lib.hid hb_; clear hb_ hb)))
        go_ret
        exact ⟨rfl, HB.out⟩
      · have h5' : (p.f2.length : Int) ≤ 500 := by omega
        have hp5 : p.f2.length ≤ 500 := by omega
        have hp6 : p.f2.length ≤ 65536 := by omega
        have hcp := Lib.hid (copy_is p.f0 p.f1 p.f2 hp6)
        clear h5
        go_wp2_with (first | ((with_reducible go_at_call 13); go_must (refine (juratref24_Copy.calls p.f0 p.f1 A2 c2 p.f2 p.f0 p.f1 p.f2 _ HC2.out hc2 hcp.out).mono ?_; rintro e w' ⟨v2, rfl, hr2, hb⟩; obtain ⟨Ax, cx, rfl⟩ := Kd.R_slice hr2; have HX := Lib.hid (Kd.R_reads' hr2); have hn_ := HN.out.kept hb; have hb_ := below_step HB.out hb; clear HN HB hr2 hb; have HN := Lib.hid hn_; have HB := Lib.hid hb_; clear hn_ hb_)) | ((with_reducible go_at_call 10); go_must (refine (send_ok w.heap.size r (fun _ => True) ao cap ns p.f0 p.f1 Ax cx p.f2 _ HN.out (fun _ _ => trivial) hns hp6 HX.out.2.2 HX.out.2.1).mono ?_; rintro e w' ⟨rfl, v', hn, hb, hk_⟩; obtain ⟨ao', cp', rfl⟩ := Kd.S_slice hn.2.2; have hb_ := HB.out.trans hb; clear HN HB; have HN := Lib.hid hn; have HB := Lib.hid hb_; clear hn hb_ hb hk_)))
        exact ⟨⟨k + 1, _, _, _, by go_num, by omega, HN, HB, Lib.hid hpt.out.symm, Lib.hid (by intro q hq; rw [List.mem_append, List.mem_singleton] at hq; rcases hq with hq | rfl; exact H5.out q hq; exact hp5)⟩, by simp [intOf]; omega⟩
    · have hlt' : (ls.length : Int) ≤ k := by omega
      have hke : Hid (k = ls.length) := Lib.hid (by omega)
      have hnl : Hid (ls = ns) := Lib.hid (by rw [HT.out, hke.out, List.take_length])
      clear HT hke
      obtain rfl := hnl.out
      clear hnl
      go_wp2_with (first | ((with_reducible go_at_call 17); go_must (refine (all_ok w.heap.size r (fun _ => True) ao _ cap ls _ HN.out).mono ?_; rintro e w' ⟨rfl, hs, hn, hb⟩; have hb_ := HB.out.trans hb; clear HN HB; have HN := Lib.hid hn; have HB := Lib.hid hb_; have HS := Lib.hid (Kd.S_reads' hs); clear hs hn hb_ hb)) | ((with_reducible go_at_call 18); go_must (refine (same_all ao _ cap A cap0 ls _ rfl h80 H5.out HS.out.2.2 HS.out.2.1 (Kd.C_below HC.out HB.out) hcap0).mono ?_; rintro e w' ⟨rfl, hb⟩; have hn_ := HN.out.kept hb; have hb_ := below_step HB.out hb; clear HN HB hb; have HN := Lib.hid hn_; have HB := Lib.hid hb_; clear hn_ hb_)) | ((with_reducible go_at_call 11); go_must (refine (len_is _ 0 _ _ _ HN.out.cell).mono ?_; rintro e w' ⟨rfl, rfl⟩)) | ((with_reducible go_at_call 8); go_must (refine (awake_ok _).mono ?_; rintro e w' ⟨rfl, hb⟩; have hb_ := below_step HB.out hb; clear HB; have HB := Lib.hid hb_; clear hb_ hb)))
      go_ret
      exact ⟨rfl, HB.out⟩
end Go.Proofs.Ytglhojkchpbnkaa.NetOrder
