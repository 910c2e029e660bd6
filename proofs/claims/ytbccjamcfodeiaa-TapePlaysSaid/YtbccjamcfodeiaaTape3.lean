/- PROVED: Append of a tape. No condition beyond what each line says. -/
import Derived.Test.YtbccjamcfodeiaaTape2
import Derived.Test.YtbccjamcfodeiaaLRead
import Derived.Test.YtbccjamcfodeiaaWApart
import Derived.Test.YtbccjamcfodeiaaWKept
import Derived.WalkKit
import Derived.WalkSpells
import Derived.WalkLawsBesides
import Derived.WalkMore
import Derived.Outline
import Derived.Lib.Hide
import Derived.BigQuiet
import Derived.Deep.QuietTactic
import Derived.Deep.RegionHeld3
import Derived.Deep.RegionLaw
import Derived.Deep.LoopGhost
import Derived.Deep.DeepCutAuto
namespace Go.Proofs.Ytbccjamcfodeiaa.Tape3
open Go.RowKit Go.Proofs.Ytbccjamcfodeiaa.PTapePlays Go.Proofs.YtbccjamcfodeiaaW.PrintWords Go.Proofs.YtbccjamcfodeiaaW.PrintLast Go.Proofs.YtbccjamcfodeiaaW.PrintMore
open Go.Proofs.Ytbccjamcfodeiaa.Tape Go.Proofs.Ytbccjamcfodeiaa.Tape2
set_option linter.unusedSimpArgs false
set_option linter.unusedVariables false
theorem slot_bytes {base : Nat} {S : Nat → Nat → Prop} {w : World} {r j : Nat} {V : Nat → Value} {C : Nat → Cont} {f : Int} {d : Bool} {l : List Int} (h : TapeIs base S w r V C f d) (hj : j < 12) (hc : C j = .bytes l) : ∃ A c, V j = .slice A l.length c ∧ OwnB w base (S j) (.slice A l.length c) l := by
  have ho := h.2.2.1 j hj
  rw [hc] at ho
  have ho : OwnB w base (S j) (V j) l := ho
  obtain ⟨A, c, e⟩ := OwnB.slice ho
  rw [e] at ho
  exact ⟨A, c, e, ho⟩
theorem slot_steps {base : Nat} {S : Nat → Nat → Prop} {w : World} {r j : Nat} {V : Nat → Value} {C : Nat → Cont} {f : Int} {d : Bool} {l : List (Bool × Int)} (h : TapeIs base S w r V C f d) (hj : j < 12) (hc : C j = .steps l) : ∃ A c, V j = .slice A l.length c ∧ Kd.R kS 71 w base (S j) (.slice A l.length c) l := by
  have ho := h.2.2.1 j hj
  rw [hc] at ho
  have ho : Kd.R kS 71 w base (S j) (V j) l := ho
  obtain ⟨A, c, e⟩ := Kd.R_slice ho
  rw [e] at ho
  exact ⟨A, c, e, ho⟩
theorem Else.put1 {C C' : Nat → Cont} {i : Nat} {now : List Int} {opn : List (Bool × Int)} (h : Else C C' i now opn) (now' : List Int) : Else C (upd C' (i * 3 + 1) (.bytes now')) i now' opn :=
  ⟨upd_same _ _ _, (upd_ne _ _ (by omega)).trans h.2.1, fun j h1 h2 => (upd_ne _ _ h1).trans (h.2.2 j h1 h2)⟩
theorem Else.put2 {C C' : Nat → Cont} {i : Nat} {now : List Int} {opn : List (Bool × Int)} (h : Else C C' i now opn) (opn' : List (Bool × Int)) : Else C (upd C' (i * 3 + 2) (.steps opn')) i now opn' :=
  ⟨(upd_ne _ _ (by omega)).trans h.1, upd_same _ _ _, fun j h1 h2 => (upd_ne _ _ h2).trans (h.2.2 j h1 h2)⟩
theorem byte_in {w : World} {A : Option Addr} {l : List Int} (h : Kd.C (Kd.int .u8) w A l.length l) {k : Nat} {x : Int} (hx : l[k]? = some x) : ∃ b off, A = some ⟨b, off, none⟩ ∧ w.cell? ⟨b, off + k, none⟩ = some (.int .u8 x) := by
  have hk : k < l.length := (List.getElem?_eq_some_iff.1 hx).1
  obtain ⟨b, off, rfl, hb, hel⟩ := LRead.C_addr h (by decide) (by omega)
  obtain ⟨c, hc, hK, hcell⟩ := hel k x hx
  have hK2 : c = [.int .u8 x] := hK
  subst hK2
  refine ⟨b, off, rfl, ?_⟩
  have := hcell 0 _ rfl
  rw [show off + k * (Kd.int .u8).sz + 0 = off + k from by show off + k * 1 + 0 = off + k; omega] at this
  exact this
set_option maxHeartbeats 4000000 in
set_option maxRecDepth 100000 in
theorem append_ok (base : Nat) (U : Nat → Prop) (r i : Nat) (C : Nat → Cont) (now : List Int) (opn : List (Bool × Int)) (f : Int) (A : Option Addr) (c : Nat) (b : List Int) (w : World) (h : TapeU base U w r C f false) (hi : i < 4) (hc1 : C (i * 3 + 1) = .bytes now) (hc2 : C (i * 3 + 2) = .steps opn)
    (hf : f ≤ 9223372036854775807) (hbw : base ≤ w.heap.size) (hn : now.length + b.length ≤ 1048576) (ho : opn.length + b.length ≤ 1000000000) (hC : Kd.C (Kd.int .u8) w A b.length b) (hcap : b.length ≤ c) (hby : ∀ x ∈ b, 0 ≤ x ∧ x < 256) (hsep : ∀ a, A = some a → ¬ U a.block) :
    Calls Try.prog 13 #[.pointer (some ⟨r, 0, none⟩), .int .i64 i, .slice A b.length c] w (AppIs base U r i C (appT b now opn f false) w) := by
  obtain ⟨S, V, hT, hU, hS⟩ := h
  obtain ⟨A1, c1, e1, hR1⟩ := slot_bytes hT (j := i * 3 + 1) (by omega) hc1
  have x1 := hT.cell (j := i * 3 + 1) (by omega)
  rw [e1] at x1
  have x13 := hT.down
  have hnI : (now.length : Int) ≤ 1048576 - (b.length : Int) := by omega
  have hbI : (b.length : Int) ≤ 1048576 := by omega
  have HC := Lib.hid hC
  have HBY := Lib.hid hby
  have HSEP := Lib.hid hsep
  have HT : Hid (TapeU base (fun k => U k ∨ w.heap.size ≤ k) w r C f false) := Lib.hid (TapeU.mono ⟨S, V, hT, hU, hS⟩ (fun k hk => .inl hk))
  have HE : Hid (Else C C i now opn) := Lib.hid ⟨hc1, hc2, fun _ _ _ => rfl⟩
  have HUr := Lib.hid hU
  clear hC hby hsep hT hS hR1 e1 hU
  go_enter Try.func13, Try.ntmps13
  go_upto_region 9 with (first | ((with_reducible go_at_call 29); go_must (refine (at_ok r i _ hi).mono ?_; rintro e w' ⟨rfl, rfl⟩)))
  clear x1 x13
  go_loopw [10, 38] (fun u10 u38 wr => ∃ (k : Nat) (tv : Value) (C' : Nat → Cont) (now' : List Int) (opn' : List (Bool × Int)) (f' : Int), u38 = .int .i64 k ∧ k ≤ b.length ∧ u10 = tv ∧ Hid (now'.length = now.length + k) ∧ Hid (opn'.length = opn.length + k) ∧ f' ≤ 9223372036854775807 ∧ Hid (TapeU base (fun k => U k ∨ w.heap.size ≤ k) wr r C' f' false) ∧ Hid (Else C C' i now' opn') ∧ Hid (Below base w wr) ∧ Hid (Kept w wr U) ∧ Hid (appT b now opn f false = appT (b.drop k) now' opn' f' false)) (fun _ u38 _ => b.length - (intOf u38).toNat)
  case atStart => exact ⟨0, _, C, now, opn, f, rfl, Nat.zero_le _, rfl, Lib.hid rfl, Lib.hid rfl, hf, HT, HE, Lib.hid (Below.refl _ _), Lib.hid (Kept.refl _ _), Lib.hid rfl⟩
  clear HT HE hf hc1 hc2
  obtain ⟨k, tv, C', now', opn', f', rfl, hk, rfl, HNL, HOL, hf, HT, HE, HB, HK, HX⟩ := hrel
  by_cases hlt : k < b.length
  · have hlt' : (k : Int) < b.length := by omega
    obtain ⟨x, hx⟩ : ∃ x, b[k]? = some x := ⟨_, List.getElem?_eq_getElem hlt⟩
    obtain ⟨bb, off, rfl, x0⟩ := byte_in HC.out hx
    have hx8 := HBY.out x (List.mem_of_getElem? hx)
    have hx0 := hx8.1
    have hx1 := hx8.2
    have x0 := cell_kept x0 HK.out (show ¬ U bb from HSEP.out ⟨bb, off, none⟩ rfl)
    have hdr : b.drop k = x :: b.drop (k + 1) := by
      have := List.getElem?_eq_some_iff.1 hx
      rw [← this.2, List.drop_eq_getElem_cons]
    have hX := HX.out
    rw [hdr, appT] at hX
    have HX2 := Lib.hid hX
    obtain ⟨S, V, hT, hU, hS⟩ := HT.out
    have hbs : base ≤ wr.heap.size := Nat.le_trans hbw HK.out.1
    have HTI := Lib.hid hT
    have HSU := Lib.hid hS
    clear hX hdr hx HT HX hT hS hU hx8
    by_cases q : f' = 0
    · have ht : powT f' false = (false, 0, true) := by rw [q]; rfl
      have HTK := Lib.hid ht
      clear ht q
      go_wp2_with (first | ((with_reducible go_at_call 30); go_must (refine (take_ok base S r V C' f' false _ HTI.out hf).mono ?_; rw [HTK.out]; rintro y w2 ⟨rfl, ht, hg⟩; have hb_ := Below.grown HB.out hg hbs (fun k hk => by cases hk; exact ht.2.1); have hk_ := Kept.of_grown hg HK.out (fun k hk => by cases hk; exact .inl HUr.out); clear HTI HB HK x0; have HTI := Lib.hid ht; have HB := Lib.hid hb_; have HK := Lib.hid hk_; clear ht hg hb_ hk_)))
      go_ret
      have e : appT b now opn f false = (100, now', opn', 0, true) := by rw [HX2.out, HTK.out]; rfl
      rw [e]
      exact ⟨rfl, C', ⟨S, V, HTI.out, .inl HUr.out, HSU.out⟩, HE.out, HB.out, HK.out⟩
    · have ht : powT f' false = (true, (powT f' false).2.1, false) := by
        unfold powT
        rw [if_neg q]
        split <;> rfl
      obtain ⟨f2, hf2⟩ : ∃ x, (powT f' false).2.1 = x := ⟨_, rfl⟩
      rw [hf2] at ht
      have hf3 : f2 ≤ 9223372036854775807 := by
        rw [← hf2]; unfold powT; rw [if_neg q]; split <;> simp <;> omega
      have HTK := Lib.hid ht
      clear ht q hf2
      go_upto_region 14 with (first | ((with_reducible go_at_call 30); go_must (refine (take_ok base S r V C' f' false _ HTI.out hf).mono ?_; rw [HTK.out]; rintro y w2 ⟨rfl, ht, hg⟩; have hb_ := Below.grown HB.out hg hbs (fun k hk => by cases hk; exact ht.2.1); have hk_ := Kept.of_grown hg HK.out (fun k hk => by cases hk; exact .inl HUr.out); clear HTI HB HK x0; have HTI := Lib.hid ht; have HB := Lib.hid hb_; have HK := Lib.hid hk_; obtain ⟨A1, c1, e1, hR1⟩ := slot_bytes ht (j := i * 3 + 1) (by omega) HE.out.1; have y1 := ht.cell (j := i * 3 + 1) (by omega); rw [e1] at y1; have HR1 := Lib.hid hR1; have HE1 := Lib.hid e1; clear hbs; have hbs : base ≤ w2.heap.size := Nat.le_trans hbw HK.out.1; clear ht hg hb_ hk_ hR1 e1)) | ((with_reducible refine gate_builtin (b := .append) (xs := #[.tmp 49, .tmp 51]) rfl ?_); at_builtin; go_must (refine B_append (w0 := _) base rfl (.tmp 49) (.tmp 51) 28 rfl Try.underlying28 (.slice A1 now'.length c1) now' x (fun k => S (i * 3 + 1) k ∨ w2.heap.size ≤ k) rfl rfl (fun k hk => .inr hk) (OwnB.mono HR1.out (fun k hk => .inl hk)) (Below.refl _ _) hbs ?aL ?_; (case aL => (have := HNL.out; omega)); intro vA wA ho hb hg; obtain ⟨AV, cV, rfl⟩ := Kd.R_slice ho; obtain ⟨y2, z2⟩ := slot_at HTI.out (j := i * 3 + 1) (by omega) (by rw [HE1.out]; exact hg); rw [HE1.out] at y2; have HO := Lib.hid ho; have HGR := Lib.hid hg; clear y1 ho hb hg)))
      have hp := step_put HTI.out HUr.out HSU.out (j := i * 3 + 1) (v := .slice AV (now'.length + 1) cV) (c := .bytes (now' ++ [x])) (by omega) (by rw [HE1.out]; exact HGR.out) (.inl (by have := HO.out; rw [List.length_append] at this; exact this)) HB.out hbw HK.out
      refine world_gen (P := fun w5 => TapeU base (fun k => U k ∨ w.heap.size ≤ k) w5 r (upd C' (i * 3 + 1) (.bytes (now' ++ [x]))) f2 false ∧ Below base w w5 ∧ Kept w w5 U) hp (fun w5 h5 => ?_)
      obtain ⟨p1, p2, p3⟩ := h5
      clear hp y2 z2 HO HGR HTI HB HK HR1 HE1 hbs HSU
      have HE2 := Lib.hid (Else.put1 HE.out (now' ++ [x]))
      obtain ⟨S2, V2, hT2, hU2, hS2⟩ := p1
      have hbs : base ≤ w5.heap.size := Nat.le_trans hbw p3.1
      obtain ⟨A2, c2, e2, hR2⟩ := slot_steps hT2 (j := i * 3 + 2) (by omega) HE2.out.2.1
      have y3 := hT2.cell (j := i * 3 + 2) (by omega)
      rw [e2] at y3
      have HTI := Lib.hid hT2
      have HSU := Lib.hid hS2
      have HB := Lib.hid p2
      have HK := Lib.hid p3
      have HR2 := Lib.hid hR2
      have HE3 := Lib.hid e2
      clear hT2 hS2 p2 p3 hR2 e2 hU2
      go_upto_region 15 with (first | ((with_reducible refine gate_builtin (b := .append) (xs := #[.tmp 59, .tmp 63]) rfl ?_); at_builtin; go_must (refine Kd.R_append kS (w0 := _) base rfl (.tmp 59) (.tmp 63) 61 71 (.agg #[.bool false, .int .i64 0]) 16 rfl Try.underlying61 info71 rfl (by decide) (by omega) (.slice A2 opn'.length c2) opn' (false, x) [.bool false, .int .i64 x] (fun k => S2 (i * 3 + 2) k ∨ w5.heap.size ≤ k) (fun _ => False) rfl rfl ?aP (fun _ h => h.elim) (fun k hk => .inr hk) (Kd.R_mono HR2.out (fun k hk => .inl hk)) (Below.refl _ _) hbs ?aL ?_; (case aP => exact ⟨[.bool false], [.int .i64 x], rfl, rfl, rfl⟩); (case aL => (have := HOL.out; omega)); intro vA wA ho hb hg hat; obtain ⟨AV2, cV2, rfl⟩ := Kd.R_slice ho; obtain ⟨y4, z4⟩ := slot_at HTI.out (j := i * 3 + 2) (by omega) (by rw [HE3.out]; exact hg); rw [HE3.out] at y4; have HO := Lib.hid ho; have HGR := Lib.hid hg; clear y3 ho hb hg hat)))
      have hp := step_put HTI.out HUr.out HSU.out (j := i * 3 + 2) (v := .slice AV2 (opn'.length + 1) cV2) (c := .steps (opn' ++ [(false, x)])) (by omega) (by rw [HE3.out]; exact HGR.out) (by have := HO.out; rw [List.length_append] at this; exact this) HB.out hbw HK.out
      refine world_gen (P := fun w6 => TapeU base (fun k => U k ∨ w.heap.size ≤ k) w6 r (upd (upd C' (i * 3 + 1) (.bytes (now' ++ [x]))) (i * 3 + 2) (.steps (opn' ++ [(false, x)]))) f2 false ∧ Below base w w6 ∧ Kept w w6 U) hp (fun w6 h6 => ?_)
      obtain ⟨p1, p2, p3⟩ := h6
      have HT := Lib.hid p1
      have HB2 := Lib.hid p2
      have HK2 := Lib.hid p3
      clear hp y4 z4 HO HGR HTI HB HK HR2 HE3 hbs HSU p1 p2 p3
      go_wp2
      exact ⟨⟨k + 1, _, _, _, _, f2, by go_num, by omega, rfl, Lib.hid (by rw [List.length_append, HNL.out]; simp; omega), Lib.hid (by rw [List.length_append, HOL.out]; simp; omega), hf3, HT, Lib.hid (Else.put2 HE2.out _), HB2, HK2, Lib.hid (by rw [HX2.out, HTK.out]; rfl)⟩, by simp [intOf]; omega⟩
  · have hlt' : (b.length : Int) ≤ k := by omega
    have hX := HX.out
    rw [List.drop_of_length_le (by omega), appT] at hX
    have HX2 := Lib.hid hX
    clear hX HX
    go_wp2
    go_ret
    rw [HX2.out]
    exact ⟨rfl, C', HT.out, HE.out, HB.out, HK.out⟩
end Go.Proofs.Ytbccjamcfodeiaa.Tape3
