/- PROVED: the law WireOwn: the walk. No condition. -/
import Derived.Test.YtnkaalapjlmmiaaWireT2
import Derived.Test.YtnkaalapjlmmiaaWKept
import Derived.Test.YtnkaalapjlmmiaaWApart
import Derived.Test.YtnkaalapjlmmiaaLRead
import Derived.Test.YtnkaalapjlmmiaaWApart
import Derived.WalkKit
import Derived.WalkSpells
import Derived.WalkLawsBesides
import Derived.WalkMore
import Derived.Outline
import Derived.Lib.Hide
import Derived.BigQuiet
import Derived.Deep.QuietTactic
import Derived.Deep.RegionHeld3
import Derived.Deep.RegionLaw
import Derived.Deep.LoopGhost
import Derived.Deep.DeepCutAuto
namespace Go.Proofs.Ytnkaalapjlmmiaa.WireOwn
open Go.RowKit Go.Proofs.Ytnkaalapjlmmiaa.PWireWrites Go.Proofs.Ytnkaalapjlmmiaa.WirePure Go.Proofs.YtnkaalapjlmmiaaW.PrintWords Go.Proofs.YtnkaalapjlmmiaaW.PrintLast Go.Proofs.YtnkaalapjlmmiaaW.PrintMore
open Go.Proofs.Ytnkaalapjlmmiaa.WireW (slice_at cell_below num_ok text_ok list_ok)
open Go.Proofs.Ytnkaalapjlmmiaa.WireR Go.Proofs.Ytnkaalapjlmmiaa.WireR2 Go.Proofs.Ytnkaalapjlmmiaa.WireR3
open Go.Proofs.Ytnkaalapjlmmiaa.WireT Go.Proofs.Ytnkaalapjlmmiaa.WireD Go.Proofs.Ytnkaalapjlmmiaa.WirePure2
open Go.Proofs.Ytnkaalapjlmmiaa.WireT2
set_option linter.unusedSimpArgs false
set_option linter.unusedVariables false
theorem byte_at {w : World} {B g c n : Nat} {ok : Nat → Prop} {l : List Int} (h : Kd.R (Kd.int .u8) 5 w B ok (.slice (some ⟨g, 0, none⟩) n c) l) {j : Nat} (hj : j < l.length) : w.cell? ⟨g, j, none⟩ = some (.int .u8 (rd l j)) ∧ w.frozen? ⟨g, j, none⟩ = false := by
  obtain ⟨g2, c2, he, _, _, cs, hX⟩ := Kd.R_form h (by omega)
  simp only [Value.slice.injEq, Option.some.injEq, Addr.mk.injEq] at he
  obtain ⟨⟨rfl, _, _⟩, _, rfl⟩ := he
  obtain ⟨b, off, he, _, hel⟩ := LRead.C_addr (Kd.R_reads' h).2.2 (by decide) (by omega)
  simp only [Option.some.injEq, Addr.mk.injEq] at he
  obtain ⟨rfl, rfl, _⟩ := he
  obtain ⟨c1, hc1, hK1, hcell1⟩ := hel j (l[j]) (by simp)
  have hK2 : c1 = [.int .u8 l[j]] := hK1
  subst hK2
  have e1 : (0 : Nat) + j * (Kd.int .u8).sz + 0 = j := by show 0 + j * 1 + 0 = j; omega
  have h1 := hcell1 0 _ rfl
  rw [e1] at h1
  refine ⟨?_, blk_frozen hX j⟩
  rw [h1]
  unfold rd
  simp [List.getD, List.getElem?_eq_getElem hj]
/-- A byte of a text of a list of one's own, and the list behind a store into it. -/
theorem S_byte {w : World} {base n cap i j : Nat} {ok : Nat → Prop} {ao : Option Addr} {xs : List (List Int)} {t : List Int} (h : Kd.S kT 27 w base ok (.slice ao n cap) xs) (ht : xs[i]? = some t) (hj : j < t.length) :
    ∃ g g2 c2, ao = some ⟨g, 0, none⟩ ∧ w.cell? ⟨g, i, none⟩ = some (.slice (some ⟨g2, 0, none⟩) t.length c2) ∧ w.cell? ⟨g2, j, none⟩ = some (.int .u8 (rd t j)) ∧ w.frozen? ⟨g2, j, none⟩ = false ∧ ok g2 ∧ base ≤ g2 ∧
      ∀ x : Int, Kd.S kT 27 (w.setCell ⟨g2, j, none⟩ (.int .u8 x)) base ok (.slice ao n cap) (xs.set i (t.set j x)) := by
  have hi : i < xs.length := (List.getElem?_eq_some_iff.1 ht).1
  obtain ⟨g, cp, hv, hbg, hgl, _⟩ := Kd.S_form h (by omega)
  simp only [Value.slice.injEq] at hv
  obtain ⟨rfl, rfl, rfl⟩ := hv
  obtain ⟨oki, c, hcl, hM, hcell, hoki, hH⟩ := Kd.S_lend h [] (i : Int) (by omega) (by omega)
  have hpe : xs.getD (i : Int).toNat [] = t := by simp [List.getD, ht]
  rw [hpe] at hM
  obtain ⟨v2, rfl, hR⟩ := hM
  obtain ⟨g2, c2, rfl, hb2, _, cells2, hX2⟩ := Kd.R_form hR (by omega)
  obtain ⟨q1, q2⟩ := byte_at hR hj
  have hg2 : oki g2 := hR.1 _ rfl
  refine ⟨g, g2, c2, rfl, ?_, q1, q2, (hoki g2 hg2).1, hb2, fun x => ?_⟩
  · have := hcell 0 _ rfl
    rw [show (i : Int).toNat * kT.sz + 0 = i from by show (i : Int).toNat * 1 + 0 = i; omega] at this
    exact this
  · obtain ⟨hR', hG⟩ := Kd.R_put hR (j : Int) x
    have hH' := Kd.H_grown hH hG (fun q hq => by injection hq with hq; subst hq; exact hg2)
    have hB := Kd.H_back hH' (x' := t.set j x) (okp := oki) (by
      have e : (t.set (j : Int).toNat x) = t.set j x := by simp
      rw [e] at hR'
      exact ⟨_, rfl, hR'⟩) (fun _ hq => hq)
    simpa using hB
theorem C_len {w : World} {A : Option Addr} {n : Nat} {xs : List (List Int)} (h : Kd.C kT w A xs.length xs) (_ : xs.length = n) : Kd.C kT w A xs.length xs := h
theorem own_r (A : Option Addr) (c : Nat) (l : List Int) (w : World) (h : l.length ≤ 1000000) (hC : Kd.C (Kd.int .u8) w A l.length l) (hc : l.length ≤ c) :
    Calls Try.prog 14 #[.slice A l.length c] w fun e w' => ∃ v, e = .returned v ∧ Kd.R (Kd.int .u8) 5 w' w.heap.size (fun _ => True) v l ∧ Below w.heap.size w w' := by
  refine (juratlaw04_own.calls A c l l w hC hc (own_eq l (by omega))).mono ?_
  rintro e w' ⟨v, rfl, hr, hb⟩
  exact ⟨v, rfl, hr, hb⟩
/-- What was there ahead of a reader, what the reader has: apart from each other. -/
theorem split_at {b0 : Nat} {w1 w2 : World} {v : Value} {xs l : List Int} {r : Nat} {A : Option Addr} {cap : Nat} (hv : Kd.R (Kd.int .u8) 5 w1 b0 (fun k => k < w1.heap.size) v xs) (hr : RdIs w1.heap.size (fun _ => True) w2 r A cap l 0 0) (hb : Below w1.heap.size w1 w2) (h0 : b0 ≤ w1.heap.size) :
    ∃ N1 N2, (N1 ≤ r ∧ r < N2 ∧ N2 = w2.heap.size) ∧ Kd.R (Kd.int .u8) 5 w2 b0 (fun k => k < N1) v xs ∧ RdIs b0 (fun k => N1 ≤ k ∧ k < N2) w2 r A cap l 0 0 :=
  ⟨w1.heap.size, w2.heap.size, ⟨hr.2.1, hr.lt, rfl⟩, Kd.R_below hv hb, ⟨hr.1, Nat.le_trans h0 hr.2.1, hr.2.2.1, Kd.R_lower (Kd.R_mono (Kd.R_bound hr.2.2.2) (fun k hk => ⟨hk.2.1, hk.2.2.1⟩)) h0⟩⟩
theorem after_list {b0 N1 N2 r : Nat} {w1 w2 : World} {v vF : Value} {xs : List Int} {l : List (List Int)} (hv : Kd.R (Kd.int .u8) 5 w1 b0 (fun k => k < N1) v xs) (hs : Kd.S kT 27 w2 w1.heap.size (fun _ => True) vF l) (hg : w1.grownBy w2 (some r)) (hN : N1 ≤ r ∧ r < N2 ∧ N2 = w1.heap.size) :
    Kd.R (Kd.int .u8) 5 w2 b0 (fun k => k < N1) v xs ∧ Kd.S kT 27 w2 N2 (fun k => N2 ≤ k) vF l :=
  ⟨Kd.R_grown hv hg (fun k hk e => by simp at e; omega), by have := Kd.S_mono (Kd.S_bound hs) (ok' := fun k => N2 ≤ k) (fun k hk => by have := hk.2.1; omega); rw [hN.2.2]; rw [hN.2.2] at this; exact this⟩
set_option maxHeartbeats 4000000 in
set_option maxRecDepth 100000 in
theorem own_walk (A : Option Addr) (cap : Nat) (l : List (List Int)) (w : World) (hC : Kd.C kT w A l.length l) (hcap : l.length ≤ cap) (hby : ∀ t ∈ l, Byt t) :
    Calls Try.prog 7 #[.slice A l.length cap] w fun e w' => e = .returned (.bool true) ∧ Below w.heap.size w w' := by
  have HC := Lib.hid hC
  clear hC
  obtain ⟨lb, hlb⟩ : ∃ b, longB l = b := ⟨_, rfl⟩
  have HLB := Lib.hid hlb
  clear hlb
  rcases lb with _ | _
  rotate_left
  · go_enter Try.func7, Try.ntmps7
    go_wp2_with (first | ((with_reducible go_at_call 10); go_must (refine (long_t _ A cap l _ HLB.out HC.out hcap).mono ?_; rintro e w' ⟨rfl, hb⟩; have HB := Lib.hid hb; clear hb)) | ((with_reducible go_at_call 11); go_must (refine (awake_ok _).mono ?_; rintro e w' ⟨rfl, hb⟩; have hb_ := below_step HB.out hb; clear HB; have HB := Lib.hid hb_; clear hb_ hb)))
    go_ret
    exact ⟨rfl, HB.out⟩
  obtain ⟨h1, h2⟩ := long_no HLB.out
  have hL := listB_le l h1 h2
  have H2 := Lib.hid h2
  have h1' : (l.length : Int) ≤ 100 := by omega
  have h1k : l.length ≤ 1000 := by omega
  have H2k := Lib.hid (fun t ht => Nat.le_trans (h2 t ht) (show 500 ≤ 1000 by omega))
  have hlb := listB_byt l hby
  have hLD : ∀ rest, listD (listB l ++ rest) 100 500 = (l, (listB l).length, 0) := fun rest => listD_back l (by omega) 100 500 (by omega) (fun t ht => ⟨by have := h2 t ht; omega, by have := h2 t ht; omega⟩) rest
  have HLD := Lib.hid hLD
  have HLDe : Hid (listD (listB l) 100 500 = (l, (listB l).length, 0)) := Lib.hid (by have := hLD []; rw [List.append_nil] at this; exact this)
  obtain ⟨LB, hLB⟩ : ∃ x, listB l = x := ⟨_, rfl⟩
  have HLBe := Lib.hid hLB
  rw [hLB] at hlb hL HLD HLDe
  have HLBb := Lib.hid hlb
  have hLl : LB.length ≤ 1000000 := by omega
  obtain ⟨BB, hBB⟩ : ∃ x, LB ++ LB = x := ⟨_, rfl⟩
  have hBl2 : BB.length = LB.length + LB.length := by rw [← hBB, List.length_append]
  have hBl : BB.length ≤ 1000000 := by omega
  have hBb : Hid (Byt BB) := Lib.hid (fun x hx => by rw [← hBB] at hx; rcases List.mem_append.1 hx with hx | hx <;> exact hlb x hx)
  have hdr0 : Hid (listD (BB.drop 0) 100 500 = (l, LB.length, 0)) := Lib.hid (by rw [List.drop_zero, ← hBB]; exact HLD.out LB)
  have hdr1 : Hid (listD (BB.drop LB.length) 100 500 = (l, LB.length, 0)) := Lib.hid (by rw [← hBB, List.drop_left]; exact HLDe.out)
  have hend : Hid (endD (BB.drop (LB.length + LB.length)) 0 = 0) := Lib.hid (by rw [List.drop_of_length_le (by omega)]; rfl)
  have HBB := Lib.hid hBB
  clear hBl2 hBB
  clear h2 hlb hLD hLB hby
  go_enter Try.func7, Try.ntmps7
  go_upto_region 8 with (first | ((with_reducible go_at_call 10); go_must (refine (long_t _ A cap l _ HLB.out HC.out hcap).mono ?_; rintro e w' ⟨rfl, hb⟩; have HB := Lib.hid hb; clear hb)) | ((with_reducible go_at_call 19); go_must (refine (copies_t A cap l _ h1k H2k.out (Kd.C_below HC.out HB.out) hcap).mono ?_; rintro e w' ⟨A5, c5, rfl, hc5, h5, hb⟩; have hb_ := below_step HB.out hb; clear HB; have HB := Lib.hid hb_; clear hb_ hb; have H5 := Lib.hid h5; clear h5)) | ((with_reducible go_at_call 18); go_must (refine (list_t A5 c5 l _ h1k H2k.out H5.out hc5).mono ?_; rw [HLBe.out]; rintro e w' ⟨A6, c6, rfl, hc6, h6, hb⟩; have hb_ := below_step HB.out hb; clear HB; have HB := Lib.hid hb_; clear hb_ hb; clear H5; have H6 := Lib.hid h6; clear h6)) | ((with_reducible go_at_call 14); go_must (refine (own_r A6 c6 LB _ hLl H6.out hc6).mono ?_; rintro e w' ⟨v, rfl, hr, hb⟩; have h6_ := Kd.C_below H6.out hb; clear H6; have H6 := Lib.hid h6_; have HV := Lib.hid (Kd.R_lower hr HB.out.size); have hb_ := below_step HB.out hb; clear HB; have HB := Lib.hid hb_; clear hb_ hb; clear h6_ hr)) | ((with_reducible refine gate_builtin (b := .append) (xs := #[.tmp 17, .tmp 18]) rfl ?_); at_builtin; go_must (refine Kd.R_append_rows (Kd.int .u8) (w0 := w) (w.heap.size) rfl (.tmp 17) (.tmp 18) 27 5 (.int .u8 0) 1 rfl Try.underlying27 info5 rfl (by decide) (by omega) (_) (LB) (LB) _ _ _ (fun _ => True) (fun _ => False) rfl rfl (HV.out) (H6.out) (fun x cs h => h) (fun _ h => h.elim) (fun _ _ => trivial) HB.out HB.out.size ?aL ?_; (case aL => omega); intro vA wA ho hb hg hat; rw [HBB.out] at ho; obtain ⟨Ab, cb, rfl⟩ := Kd.R_slice ho; clear HB HV; have HB := Lib.hid hb; have HV := Lib.hid (Kd.R_mono (Kd.R_bound ho) (fun k hk => hk.2.2.1)); clear H6 hc6 ho hb hg hat)) | ((with_reducible go_at_call 21); go_must (refine (read_ok Ab cb BB _ (Kd.R_reads' HV.out).2.2 (Kd.R_reads' HV.out).2.1 (by omega)).mono ?_; rintro e w' ⟨r, Ar, cr, rfl, hr, hb⟩; obtain ⟨N1, N2, hN, hv_, hr_⟩ := split_at HV.out hr hb HB.out.size; clear HV; have HV := Lib.hid hv_; have HR := Lib.hid hr_; have HN := Lib.hid hN; have hb_ := below_step HB.out hb; clear HB; have HB := Lib.hid hb_; clear hb_ hb; clear hv_ hr_ hN hr)) | ((with_reducible go_at_call 24); go_must (refine (list_read w.heap.size _ r Ar cr BB 0 100 500 _ HR.out (by omega) hBb.out (by omega) (by omega)).mono ?_; rw [hdr0.out]; rintro y w' ⟨vF, rfl, hs, hr, hg⟩; obtain ⟨AF, cF, rfl⟩ := Kd.S_slice hs; obtain ⟨hv_, hs_⟩ := after_list HV.out hs hg HN.out; have hb_ := below_g HB.out hg HB.out.size hr.2.1; rw [Nat.zero_add] at hr; clear HV HR HB; have HV := Lib.hid hv_; have HR := Lib.hid hr; have HS := Lib.hid hs_; have HB := Lib.hid hb_; clear hv_ hs_ hb_ hs hr hg)))
  go_loopw [7] (fun u7 wr => ∃ (k : Nat) (xs : List Int), u7 = .int .i64 k ∧ k ≤ BB.length ∧ Hid (xs.length = BB.length) ∧ Hid (Kd.R (Kd.int .u8) 5 wr w.heap.size (fun k => k < N1) (.slice Ab BB.length cb) xs) ∧ Hid (RdIs w.heap.size (fun k => N1 ≤ k ∧ k < N2) wr r Ar cr BB LB.length 0) ∧ Hid (Kd.S kT 27 wr N2 (fun k => N2 ≤ k) (.slice AF l.length cF) l) ∧ Hid (Below w.heap.size w wr)) (fun u7 _ => BB.length - (intOf u7).toNat)
  case atStart => exact ⟨0, BB, rfl, Nat.zero_le _, Lib.hid rfl, HV, HR, HS, HB⟩
  clear HV HR HS HB
  obtain ⟨k, xs, rfl, hk, HXL, HV, HR, HS, HB⟩ := hrel
  by_cases hlt : k < BB.length
  · have hlt' : (k : Int) < BB.length := by omega
    obtain ⟨g, cg, hv, hbg, _, cells, hX⟩ := Kd.R_form HV.out (by rw [HXL.out]; omega)
    simp only [Value.slice.injEq] at hv
    obtain ⟨rfl, _, rfl⟩ := hv
    obtain ⟨e0, f0⟩ := byte_at HV.out (j := k) (by rw [HXL.out]; exact hlt)
    have hgN : g < N1 := HV.out.1 g rfl
    have hrN := HN.out.1
    have hgl := blk_lt hX
    obtain ⟨y, hy⟩ : ∃ y, rd xs (k : Int) = y := ⟨_, rfl⟩
    rw [hy] at e0
    clear hy hX
    go_wp2
    exact ⟨⟨k + 1, xs.set k (Go.bits .xor .u8 y 255), by go_num, by omega, Lib.hid (by rw [List.length_set]; exact HXL.out), Lib.hid (by exact Kd.R_putn HV.out (k : Int) (Go.bits .xor .u8 y 255)), Lib.hid (HR.out.other (grown_set _ g k _) (fun e => by simp at e; omega) (fun q hq e => by simp at e; omega)), Lib.hid (Kd.S_far (p := ⟨g, k, none⟩) HS.out (fun q hq => by have := HN.out.2.1; show q ≠ g; omega) _), Lib.hid (below_set HB.out hbg)⟩, by simp [intOf]; omega⟩
  · have hlt' : (BB.length : Int) ≤ k := by omega
    clear HV HXL
    go_upto_region 12 with (fail)
    obtain ⟨wo, rfl⟩ : ∃ wo : World, wo = wr := ⟨_, rfl⟩
    go_loopw [8, 9] (fun u8 u9 wr => ∃ (i : Nat) (xs : List (List Int)), u8 = .int .i64 i ∧ i ≤ l.length ∧ Hid (xs.length = l.length) ∧ Hid (∀ t ∈ xs, t.length ≤ 500) ∧ Hid (RdIs w.heap.size (fun k => N1 ≤ k ∧ k < N2) wr r Ar cr BB LB.length 0) ∧ Hid (Kd.S kT 27 wr N2 (fun k => N2 ≤ k) (.slice AF l.length cF) xs) ∧ Hid (Below w.heap.size w wr)) (fun u8 _ _ => l.length - (intOf u8).toNat)
    case atStart => exact ⟨0, l, rfl, Nat.zero_le _, Lib.hid rfl, H2, HR, HS, HB⟩
    clear HR HS HB
    obtain ⟨i, xs, rfl, hi, HXL, HX5, HR, HS, HB⟩ := hrel
    by_cases hil : i < l.length
    · have hil' : (i : Int) < l.length := by omega
      go_upto_region 15 with (fail)
      obtain ⟨wi, rfl⟩ : ∃ wi : World, wi = wr := ⟨_, rfl⟩
      obtain ⟨m, hm⟩ : ∃ m, m = (xs.getD i []).length := ⟨_, rfl⟩
      have hm5 : m ≤ 500 := by
        rw [hm]
        by_cases q : i < xs.length
        · rw [List.getD, List.getElem?_eq_getElem q]
          exact HX5.out _ (List.getElem_mem q)
        · rw [List.getD, List.getElem?_eq_none (by omega)]
          simp
      have HM := Lib.hid hm
      clear hm
      go_loopw [9] (fun u9 wr => ∃ (j : Nat) (ys : List (List Int)) (t : List Int), u9 = .int .i64 j ∧ j ≤ m ∧ Hid (ys.length = l.length) ∧ Hid (∀ t ∈ ys, t.length ≤ 500) ∧ Hid (ys[i]? = some t) ∧ Hid (t.length = m) ∧ Hid (RdIs w.heap.size (fun k => N1 ≤ k ∧ k < N2) wr r Ar cr BB LB.length 0) ∧ Hid (Kd.S kT 27 wr N2 (fun k => N2 ≤ k) (.slice AF l.length cF) ys) ∧ Hid (Below w.heap.size w wr)) (fun u9 _ => m - (intOf u9).toNat)
      case atStart =>
        have q : i < xs.length := by rw [HXL.out]; exact hil
        exact ⟨0, xs, xs[i], rfl, Nat.zero_le _, HXL, HX5, Lib.hid (List.getElem?_eq_getElem q), Lib.hid (by rw [HM.out, List.getD, List.getElem?_eq_getElem q]; rfl), HR, HS, HB⟩
      clear HR HS HB HXL HX5
      obtain ⟨j, ys, t, rfl, hj, HYL, HY5, HT, HTL, HR, HS, HB⟩ := hrel
      by_cases hjm : j < m
      · have hjm' : (j : Int) < m := by omega
        obtain ⟨g, g2, c2, rfl, e0, e1, f1, ho2, hb2, hput⟩ := S_byte HS.out HT.out (j := j) (by rw [HTL.out]; exact hjm)
        rw [HTL.out] at e0
        have hgl := World.block_lt_of_cell? _ _ e1
        have hrN := HN.out
        have hb2w : w.heap.size ≤ g2 := by have := HR.out.2.1; omega
        obtain ⟨y, hy⟩ : ∃ y, rd t (j : Int) = y := ⟨_, rfl⟩
        rw [hy] at e1
        have HP := Lib.hid hput
        clear hy hput
        go_wp2
        exact ⟨⟨j + 1, ys.set i (t.set j (Go.bits .xor .u8 y 255)), t.set j (Go.bits .xor .u8 y 255), by go_num, by omega, Lib.hid (by rw [List.length_set]; exact HYL.out), Lib.hid (by intro z hz; rcases List.mem_or_eq_of_mem_set hz with hz | rfl; exact HY5.out z hz; rw [List.length_set]; exact HY5.out t (List.mem_of_getElem? HT.out)), Lib.hid (by rw [List.getElem?_set_self (by rw [HYL.out]; exact hil)]), Lib.hid (by rw [List.length_set]; exact HTL.out), Lib.hid (HR.out.other (grown_set _ g2 j _) (fun e => by simp at e; omega) (fun q hq e => by simp at e; omega)), Lib.hid (HP.out _), Lib.hid (below_set HB.out hb2w)⟩, by simp [intOf]; omega⟩
      · have hjm' : (m : Int) ≤ j := by omega
        obtain ⟨b, off, A2, c2, rfl, e0, _, _⟩ := slice_at (by have := (Kd.S_reads' HS.out).2.2; exact C_len this HYL.out) HT.out
        rw [HTL.out] at e0
        go_wp2
        exact ⟨⟨i + 1, ys, by go_num, by omega, HYL, HY5, HR, HS, HB⟩, by simp [intOf]; omega⟩
    · have hil' : (l.length : Int) ≤ i := by omega
      clear HS HXL HX5
      go_wp2_with (first | ((with_reducible go_at_call 24); go_must (refine (list_read w.heap.size _ r Ar cr BB LB.length 100 500 _ HR.out (by omega) hBb.out (by omega) (by omega)).mono ?_; rw [hdr1.out]; rintro y w' ⟨vF, rfl, hs, hr, hg⟩; obtain ⟨AG, cG, rfl⟩ := Kd.S_slice hs; have hb_ := below_g HB.out hg HB.out.size hr.2.1; clear HR HB; have HS := Lib.hid (Kd.S_reads' hs); have HR := Lib.hid hr; have HB := Lib.hid hb_; clear hb_ hs hr hg)) | ((with_reducible go_at_call 23); go_must (refine (same4_t AG cG _ A cap _ l _ h1k H2k.out rfl rfl HS.out.2.2 HS.out.2.1 (Kd.C_below HC.out HB.out) hcap).mono ?_; rintro y w' ⟨rfl, hb⟩; clear HS; have hr_ := HR.out.below hb; clear HR; have HR := Lib.hid hr_; clear hr_; have hb_ := below_step HB.out hb; clear HB; have HB := Lib.hid hb_; clear hb_ hb)) | ((with_reducible go_at_call 28); go_must (refine (end_read w.heap.size _ r Ar cr BB (LB.length + LB.length) 0 _ HR.out (by omega)).mono ?_; rw [hend.out]; rintro y w' ⟨rfl, hr, hg⟩; have hb_ := below_g HB.out hg HB.out.size hr.2.1; clear HR HB; have HR := Lib.hid hr; have HB := Lib.hid hb_; clear hb_ hr hg)) | ((with_reducible go_at_call 11); go_must (refine (awake_ok _).mono ?_; rintro e w' ⟨rfl, hb⟩; have hb_ := below_step HB.out hb; clear HB; have HB := Lib.hid hb_; clear hb_ hb)))
      go_ret
      exact ⟨rfl, HB.out⟩
end Go.Proofs.Ytnkaalapjlmmiaa.WireOwn
