/- PROVED: Crash of a tape. No condition beyond what each line says. -/
import Derived.Test.YtbccjamcfodeiaaTape5
import Derived.Test.YtbccjamcfodeiaaLRead
import Derived.Test.YtbccjamcfodeiaaWApart
import Derived.Test.YtbccjamcfodeiaaWKept
import Derived.WalkKit
import Derived.WalkSpells
import Derived.WalkLawsBesides
import Derived.WalkMore
import Derived.Outline
import Derived.Lib.Hide
import Derived.BigQuiet
import Derived.Deep.QuietTactic
import Derived.Deep.RegionHeld3
import Derived.Deep.RegionLaw
import Derived.Deep.LoopGhost
import Derived.Deep.DeepCutAuto
namespace Go.Proofs.Ytbccjamcfodeiaa.Tape6
open Go.RowKit Go.Proofs.Ytbccjamcfodeiaa.PTapePlays Go.Proofs.YtbccjamcfodeiaaW.PrintWords Go.Proofs.YtbccjamcfodeiaaW.PrintLast Go.Proofs.YtbccjamcfodeiaaW.PrintMore
open Go.Proofs.Ytbccjamcfodeiaa.Tape Go.Proofs.Ytbccjamcfodeiaa.Tape2 Go.Proofs.Ytbccjamcfodeiaa.Tape3 Go.Proofs.Ytbccjamcfodeiaa.Tape4 Go.Proofs.Ytbccjamcfodeiaa.Tape5
set_option linter.unusedSimpArgs false
set_option linter.unusedVariables false
/-- Steps played behind bytes. -/
def crashB : List (Bool × Int) → List Int → List Int
  | [], b => b
  | (true, n) :: s, b => crashB s (b.take n.toNat)
  | (false, c) :: s, b => crashB s (b ++ [c])
/-- Steps that can be played behind so many bytes. -/
def okS : List (Bool × Int) → Nat → Prop
  | [], _ => True
  | (true, n) :: s, L => 0 ≤ n ∧ n ≤ L ∧ okS s n.toNat
  | (false, c) :: s, L => 0 ≤ c ∧ c < 256 ∧ okS s (L + 1)
/-- How many steps of file i are kept. -/
def manyOf (ks : List Int) (i m : Nat) : Nat := if i < ks.length then min (max (ks.getD i 0) 0).toNat m else 0
/-- What a crash leaves in a slot. -/
def crashC (sure : Nat → List Int) (opn : Nat → List (Bool × Int)) (ks : List Int) : Nat → Cont := fun j => if j % 3 = 2 then .steps [] else .bytes (crashB ((opn (j / 3)).take (manyOf ks (j / 3) (opn (j / 3)).length)) (sure (j / 3)))
/-- The slots behind so many rounds. -/
def part_ (sure : Nat → List Int) (opn : Nat → List (Bool × Int)) (ks : List Int) (i : Nat) : Nat → Cont := fun j => if j / 3 < i then crashC sure opn ks j else fresh j
/-- Three slots at once were made anew, of fresh blocks that lie apart. -/
theorem put3 {base : Nat} {S : Nat → Nat → Prop} {w w1 : World} {r i : Nat} {V : Nat → Value} {C : Nat → Cont} {f : Int} {d : Bool} {va vb : Value} {la lb : List Int} {oka okb : Nat → Prop} (h : TapeIs base S w r V C f d) (hi : i < 4) (hb : Below w.heap.size w w1) (hbw : base ≤ w.heap.size)
    (ha : Kd.R (Kd.int .u8) 5 w1 base oka va la) (hb2 : Kd.R (Kd.int .u8) 5 w1 base okb vb lb) (oa : ∀ k, oka k → w.heap.size ≤ k) (ob : ∀ k, okb k → w.heap.size ≤ k) (oab : ∀ k, oka k → ¬ okb k) :
    ∃ S', TapeIs base S' (((w1.setCell ⟨r, i * 3, none⟩ va).setCell ⟨r, i * 3 + 1, none⟩ vb).setCell ⟨r, i * 3 + 2, none⟩ (.slice none 0 0)) r (upd (upd (upd V (i * 3) va) (i * 3 + 1) vb) (i * 3 + 2) (.slice none 0 0)) (upd (upd (upd C (i * 3) (.bytes la)) (i * 3 + 1) (.bytes lb)) (i * 3 + 2) (.steps [])) f d ∧ (∀ j k, S' j k → S j k ∨ w.heap.size ≤ k) := by
  obtain ⟨h1, h2, h3, h4, h5⟩ := h
  have hlt := blk_lt h1
  have hX := blk_below h1 hb
  have hsz := hb.size
  have hX1 := blk_put hX (i * 3) va (cells_set V f d (by omega) va)
  have hX2 := blk_put hX1 (i * 3 + 1) vb (cells_set _ f d (by omega) vb)
  have hX3 := blk_put hX2 (i * 3 + 2) (.slice none 0 0) (cells_set _ f d (by omega) (.slice none 0 0))
  have far3 : ∀ {ok : Nat → Prop} {v : Value} {c : Cont}, Own w1 base ok v c → (∀ k, ok k → k ≠ r) → Own (((w1.setCell ⟨r, i * 3, none⟩ va).setCell ⟨r, i * 3 + 1, none⟩ vb).setCell ⟨r, i * 3 + 2, none⟩ (.slice none 0 0)) base ok v c := fun h hk => ((h.far (p := ⟨r, i * 3, none⟩) hk va).far (p := ⟨r, i * 3 + 1, none⟩) hk vb).far (p := ⟨r, i * 3 + 2, none⟩) hk _
  refine ⟨fun j k => if j = i * 3 then oka k ∧ k < w1.heap.size else if j = i * 3 + 1 then okb k ∧ k < w1.heap.size else if j = i * 3 + 2 then False else S j k, ⟨hX3, h2, fun j hj => ?_, fun j j' k hk hk' => ?_, fun j k hk => ?_⟩, fun j k hk => ?_⟩
  · by_cases q0 : j = i * 3
    · subst q0
      rw [upd_ne _ _ (by omega), upd_ne _ _ (by omega), upd_same, upd_ne _ _ (by omega), upd_ne _ _ (by omega), upd_same]
      simp only [if_true]
      exact far3 (c := .bytes la) (.inl (Kd.R_mono (Kd.R_bound ha) (fun k hk => ⟨hk.1, hk.2.2.1⟩))) (fun k hk => by have := oa k hk.1; omega)
    by_cases q1 : j = i * 3 + 1
    · subst q1
      rw [upd_ne _ _ (by omega), upd_same, upd_ne _ _ (by omega), upd_same]
      simp only [if_neg q0, if_true]
      exact far3 (c := .bytes lb) (.inl (Kd.R_mono (Kd.R_bound hb2) (fun k hk => ⟨hk.1, hk.2.2.1⟩))) (fun k hk => by have := ob k hk.1; omega)
    by_cases q2 : j = i * 3 + 2
    · subst q2
      rw [upd_same, upd_same]
      exact far3 (c := .steps []) (Kd.R_nil _ _ _ _ _) (fun k hk => by simp only [if_neg q0, if_neg q1, if_true] at hk)
    · rw [upd_ne _ _ q2, upd_ne _ _ q1, upd_ne _ _ q0, upd_ne _ _ q2, upd_ne _ _ q1, upd_ne _ _ q0]
      simp only [if_neg q0, if_neg q1, if_neg q2]
      exact far3 ((h3 j hj).below hb) (fun k hk => (h5 j k hk).2.2)
  · have low : ∀ j k, S j k → k < w.heap.size := fun j k hk => (h5 j k hk).2.1
    have ch : ∀ j k, (if j = i * 3 then oka k ∧ k < w1.heap.size else if j = i * 3 + 1 then okb k ∧ k < w1.heap.size else if j = i * 3 + 2 then False else S j k) → (j = i * 3 ∧ oka k) ∨ (j = i * 3 + 1 ∧ okb k) ∨ S j k := by
      intro j k hk
      split at hk
      · rename_i q; exact .inl ⟨q, hk.1⟩
      · split at hk
        · rename_i q; exact .inr (.inl ⟨q, hk.1⟩)
        · split at hk
          · exact hk.elim
          · exact .inr (.inr hk)
    rcases ch j k hk with ⟨e1, m1⟩ | ⟨e1, m1⟩ | m1 <;> rcases ch j' k hk' with ⟨e2, m2⟩ | ⟨e2, m2⟩ | m2
    · omega
    · exact absurd m2 (oab k m1)
    · have := oa k m1; have := low _ _ m2; omega
    · exact absurd m1 (oab k m2)
    · omega
    · have := ob k m1; have := low _ _ m2; omega
    · have := oa k m2; have := low _ _ m1; omega
    · have := ob k m2; have := low _ _ m1; omega
    · exact h4 _ _ k m1 m2
  · have hs3 : (((w1.setCell ⟨r, i * 3, none⟩ va).setCell ⟨r, i * 3 + 1, none⟩ vb).setCell ⟨r, i * 3 + 2, none⟩ (.slice none 0 0)).heap.size = w1.heap.size := by simp [World.setCell]
    rw [hs3]
    dsimp only at hk
    split at hk
    · have := oa k hk.1; omega
    · split at hk
      · have := ob k hk.1; omega
      · split at hk
        · exact hk.elim
        · have := h5 j k hk; omega
  · dsimp only at hk
    split at hk
    · exact .inr (oa k hk.1)
    · split at hk
      · exact .inr (ob k hk.1)
      · split at hk
        · exact hk.elim
        · exact .inl hk
theorem TapeU.drewN {base : Nat} {U : Nat → Prop} {w : World} {r : Nat} {C : Nat → Cont} {f : Int} {d : Bool} (h : TapeU base U w r C f d) (m : Nat) : TapeU base U (w.drewN m) r C f d := by
  obtain ⟨S, V, h1, h2, h3⟩ := h
  exact ⟨S, V, h1.below (pw_below_drewN (Below.refl w.heap.size w) m), h2, h3⟩
theorem okS_take : ∀ (l : List (Bool × Int)) (m L : Nat), okS l L → okS (l.take m) L
  | [], _, _, _ => by rw [List.take_nil]; exact trivial
  | _ :: _, 0, _, _ => trivial
  | (true, n) :: s, m + 1, L, h => ⟨h.1, h.2.1, okS_take s m _ h.2.2⟩
  | (false, c) :: s, m + 1, L, h => ⟨h.1, h.2.1, okS_take s m _ h.2.2⟩
theorem C_tkS {w : World} {A : Option Addr} {l : List (Bool × Int)} {m : Nat} (h : Kd.C kS w A l.length l) (hm : m ≤ l.length) : Kd.C kS w A m (l.take m) := by
  have := Kd.C_take (m := m) h hm
  rwa [show (l.take m).length = m by rw [List.length_take]; omega] at this
theorem step_in {w : World} {A : Option Addr} {l : List (Bool × Int)} {n : Nat} (h : Kd.C kS w A n l) (hn : l.length = n) {k : Nat} {x : Bool × Int} (hx : l[k]? = some x) : ∃ b off, A = some ⟨b, off, none⟩ ∧ w.cell? ⟨b, off + k * 2, none⟩ = some (.bool x.1) ∧ w.cell? ⟨b, off + k * 2 + 1, none⟩ = some (.int .i64 x.2) := by
  subst hn
  have hk : k < l.length := (List.getElem?_eq_some_iff.1 hx).1
  obtain ⟨b, off, rfl, hb, hel⟩ := LRead.C_addr h (by decide) (by omega)
  obtain ⟨c, hc, hK, hcell⟩ := hel k x hx
  obtain ⟨ca, cb, rfl, h1, h2⟩ := hK
  have h1 : ca = [.bool x.1] := h1
  have h2 : cb = [.int .i64 x.2] := h2
  subst h1
  subst h2
  exact ⟨b, off, rfl, hcell 0 _ rfl, hcell 1 _ rfl⟩
theorem R_empty {w : World} {g base : Nat} {ok : Nat → Prop} (h : w.heap[g]? = some (.cells #[] 5 (0, 0))) (hb : base ≤ g) (hk : ok g) : Kd.R (Kd.int .u8) 5 w base ok (.slice (some ⟨g, 0, none⟩) 0 0) [] :=
  ⟨fun k hk' => by simp [Value.ownBlock] at hk'; rw [← hk']; exact hk, [], ⟨rfl, .inr ⟨g, 0, #[], rfl, hb, h, Nat.le_refl _, by decide, rfl, rfl⟩⟩, Reps.none _ _⟩
theorem TapeU.congr {base : Nat} {U : Nat → Prop} {w : World} {r : Nat} {C C' : Nat → Cont} {f : Int} {d : Bool} (h : TapeU base U w r C f d) (hc : ∀ j, j < 12 → C' j = C j) : TapeU base U w r C' f d := by
  obtain ⟨S, V, h1, h2, h3⟩ := h
  exact ⟨S, V, ⟨h1.1, h1.2.1, fun j hj => by rw [hc j hj]; exact h1.2.2.1 j hj, h1.2.2.2⟩, h2, h3⟩
theorem int_in {w : World} {A : Option Addr} {l : List Int} (h : Kd.C (Kd.int .i64) w A l.length l) {k : Nat} {x : Int} (hx : l[k]? = some x) : ∃ b off, A = some ⟨b, off, none⟩ ∧ w.cell? ⟨b, off + k, none⟩ = some (.int .i64 x) := by
  have hk : k < l.length := (List.getElem?_eq_some_iff.1 hx).1
  obtain ⟨b, off, rfl, hb, hel⟩ := LRead.C_addr h (by decide) (by omega)
  obtain ⟨c, hc, hK, hcell⟩ := hel k x hx
  have hK2 : c = [.int .i64 x] := hK
  subst hK2
  refine ⟨b, off, rfl, ?_⟩
  have := hcell 0 _ rfl
  rw [show off + k * (Kd.int .i64).sz + 0 = off + k from by show off + k * 1 + 0 = off + k; omega] at this
  exact this
set_option maxHeartbeats 4000000 in
set_option maxRecDepth 100000 in
theorem crash_ok (base : Nat) (U : Nat → Prop) (r : Nat) (C : Nat → Cont) (sure now : Nat → List Int) (opn : Nat → List (Bool × Int)) (f : Int) (d : Bool) (A : Option Addr) (c : Nat) (ks : List Int) (w : World) (h : TapeU base U w r C f d) (hc0 : ∀ i, i < 4 → C (i * 3) = .bytes (sure i)) (hc2 : ∀ i, i < 4 → C (i * 3 + 2) = .steps (opn i))
    (hs : ∀ i, i < 4 → (sure i).length ≤ 1048576) (ho : ∀ i, i < 4 → (opn i).length ≤ 100000000) (hok : ∀ i, i < 4 → okS (opn i) (sure i).length) (hC : Kd.C (Kd.int .i64) w A ks.length ks) (hcap : ks.length ≤ c) (hk : ks.length ≤ 1000000) (hbw : base ≤ w.heap.size) :
    Calls Try.prog 19 #[.pointer (some ⟨r, 0, none⟩), .slice A ks.length c] w fun e w' => ∃ r2, e = .returned (.pointer (some ⟨r2, 0, none⟩)) ∧ TapeU w.heap.size (fun k => w.heap.size ≤ k) w' r2 (crashC sure opn ks) (-1) false ∧ Below w.heap.size w w' := by
  have HC := Lib.hid hC
  have HT := Lib.hid h
  have HS := Lib.hid hc0
  have HO := Lib.hid hc2
  have HOK := Lib.hid hok
  have HSL := Lib.hid hs
  have HOL := Lib.hid ho
  clear hC h hc0 hc2 hok hs ho
  go_enter Try.func19, Try.ntmps19
  go_upto_region 5 with (first | ((with_reducible go_at_call 12); go_must (refine (new_ok w.heap.size _ (Nat.le_refl _)).mono ?_; rintro e w' ⟨r2, rfl, hn, hb⟩; have HN : Hid (TapeU w.heap.size (fun k => w.heap.size ≤ k) w' r2 (part_ sure opn ks 0) (-1) false) := Lib.hid hn; have HB := Lib.hid hb; clear hn hb)))
  go_loopw [15] (fun u15 wr => ∃ (i : Nat), u15 = .int .i64 i ∧ i ≤ 4 ∧ Hid (TapeU w.heap.size (fun k => w.heap.size ≤ k) wr r2 (part_ sure opn ks i) (-1) false) ∧ Hid (Below w.heap.size w wr)) (fun u15 _ => 4 - (intOf u15).toNat)
  case atStart => exact ⟨0, rfl, by omega, HN, HB⟩
  clear HN HB
  obtain ⟨i, rfl, hi4, HN, HB⟩ := hrel
  by_cases hlt : i < 4
  · have hlt' : (i : Int) < 4 := by omega
    have hT := HT.out
    obtain ⟨S, V, hT, _, _⟩ := hT
    have hT := hT.below HB.out
    obtain ⟨A0, c0, e0, hR0⟩ := slot_bytes hT (j := i * 3) (by omega) (HS.out i hlt)
    obtain ⟨A2, c2, e2, hR2⟩ := slot_steps hT (j := i * 3 + 2) (by omega) (HO.out i hlt)
    have x0 := hT.cell (j := i * 3) (by omega)
    have x2 := hT.cell (j := i * 3 + 2) (by omega)
    rw [e0] at x0
    rw [e2] at x2
    have HR0 := Lib.hid (OwnB.reads' hR0)
    have HR2 := Lib.hid (Kd.R_reads' hR2)
    clear hT hR0 hR2 e0 e2
    obtain ⟨m, hm⟩ : ∃ m, m = manyOf ks i (opn i).length := ⟨_, rfl⟩
    have hml : m ≤ (opn i).length := by rw [hm]; unfold manyOf; split <;> omega
    have HM := Lib.hid hm
    have hol := HOL.out i hlt
    have holI : ((opn i).length : Int) ≤ 100000000 := by omega
    by_cases q : i < ks.length
    · have q' : (i : Int) < ks.length := by omega
      obtain ⟨b3, off3, rfl, x3⟩ := int_in HC.out (k := i) (x := ks.getD i 0) (by rw [List.getD, List.getElem?_eq_getElem q]; rfl)
      obtain ⟨v, hv⟩ : ∃ v, ks.getD i 0 = v := ⟨_, rfl⟩
      rw [hv] at x3
      have hm' : m = min (max v 0).toNat (opn i).length := by rw [hm, ← hv]; unfold manyOf; rw [if_pos q]
      have HM' := Lib.hid hm'
      have x3 := cell_b HB.out x3
      obtain ⟨z, hz⟩ : ∃ z, (if v < 0 then (0 : Int) else v) = z := ⟨_, rfl⟩
      have e8 : (if ((opn i).length : Int) < z then ((opn i).length : Int) else z) = (m : Int) := by
        rw [hm', ← hz]
        split <;> split <;> omega
      clear hm hm' hv
      go_upto_region 9 with (fail)
      go_quiet (fail)
      refine world_gen (P := fun w5 => TapeU w.heap.size (fun k => w.heap.size ≤ k) w5 r2 (part_ sure opn ks i) (-1) false ∧ Below w.heap.size w w5) ⟨TapeU.drewN HN.out nq, pw_below_drewN HB.out nq⟩ (fun w5 h5 => ?_)
      clear x0 x2 x3 e8 hz HR0 HR2 HN HB
      obtain ⟨p1, p2⟩ := h5
      have HN := Lib.hid p1
      have HB := Lib.hid p2
      clear p1 p2
      have hT := HT.out
      obtain ⟨S, V, hT, _, _⟩ := hT
      have hT := hT.below HB.out
      obtain ⟨A0, c0, e0, hR0⟩ := slot_bytes hT (j := i * 3) (by omega) (HS.out i hlt)
      obtain ⟨A2, c2, e2, hR2⟩ := slot_steps hT (j := i * 3 + 2) (by omega) (HO.out i hlt)
      have x0 := hT.cell (j := i * 3) (by omega)
      have x2 := hT.cell (j := i * 3 + 2) (by omega)
      rw [e0] at x0
      rw [e2] at x2
      have HR0 := Lib.hid (OwnB.reads' hR0)
      have HR2 := Lib.hid (Kd.R_reads' hR2)
      clear hT hR0 hR2 e0 e2
      have hmc : (m : Int) ≤ c2 := by have := HR2.out.2.1; omega
      have HCS := Lib.hid (C_tkS HR2.out.2.2 hml)
      obtain ⟨ss, hss⟩ : ∃ x, (opn i).take m = x := ⟨_, rfl⟩
      have hsl : ss.length = m := by rw [← hss, List.length_take]; omega
      rw [hss] at HCS
      have HSS := Lib.hid hss
      have HSN := Lib.hid hsl
      have hok0 : Hid (okS (ss.drop 0) (sure i).length) := Lib.hid (by rw [List.drop_zero, ← hss]; exact okS_take _ _ _ (HOK.out i hlt))
      have hmI : (m : Int) ≤ 100000000 := by omega
      have hsi := HSL.out i hlt
      clear hss hsl
      go_upto_region 12 with (first | ((with_reducible refine gate_dst (N := 38) rfl ?_); refine Kd.R_lit (Kd.int .u8) _ 5 ?hg (N := 38) ?hd (xs := ([] : List (Int))) (inner := []) (ok := fun _ => True) (okp := fun _ => True) ?hr ?hp (fun _ hk => hk) trivial (Below.refl _ _) (Nat.le_refl _) (by simp) ?_; (case hd => rfl); (case hg => rfl); (case hr => first | (go_simp; done) | (go_simp; rfl)); (case hp => exact (Reps.none _ _)); intro vL wL hl hb hg_ hn_; clear hg_ hn_; have HL := Lib.hid hl; have HBL := Lib.hid hb; have x0b := cell_b hb x0; clear x0; have X2L := Lib.hid x2; clear x2 hl hb) | ((with_reducible refine gate_builtin (b := .append) (xs := #[.tmp 38, .tmp 42]) rfl ?_); at_builtin; go_must (refine Kd.R_append_rows (Kd.int .u8) (w0 := _) (_) rfl (.tmp 38) (.tmp 42) 28 5 (.int .u8 0) 1 rfl Try.underlying28 info5 rfl (by decide) (by omega) (vL) ([]) (sure i) _ _ _ (fun _ => True) (fun _ => False) rfl rfl (HL.out) (Kd.C_below HR0.out.2.2 HBL.out) (fun x cs h => h) (fun _ h => h.elim) (fun _ _ => trivial) HBL.out HBL.out.size ?aL ?_; (case aL => (have := HSL.out i hlt; simp; omega)); intro vA wA ho hb hg hat; rw [List.nil_append] at ho; obtain ⟨AV, cV, rfl⟩ := Kd.R_slice ho; have x2 := cell_b hb X2L.out; have HR := Lib.hid ho; have HB5 := Lib.hid hb; clear ho hb hg hat)))
      clear x2
      go_loopw [9, 11, 51] (fun u9 u11 u51 wi => ∃ (k : Nat) (Ab : Option Addr) (cb : Nat) (bl : List Int) (tv : Value), u9 = .slice Ab bl.length cb ∧ u11 = tv ∧ u51 = .int .i64 k ∧ k ≤ m ∧ bl.length ≤ 1048576 + k ∧ Hid (Kd.R (Kd.int .u8) 5 wi w5.heap.size (fun _ => True) (.slice Ab bl.length cb) bl) ∧ Hid (Below w5.heap.size w5 wi) ∧ Hid (crashB ss (sure i) = crashB (ss.drop k) bl) ∧ Hid (okS (ss.drop k) bl.length)) (fun _ _ u51 _ => m - (intOf u51).toNat)
      case atStart => exact ⟨0, AV, cV, sure i, _, rfl, rfl, rfl, Nat.zero_le _, by omega, HR, HB5, Lib.hid rfl, hok0⟩
      clear HR HB5 hok0
      obtain ⟨k, Ab, cb, bl, tv, rfl, rfl, rfl, hk2, hbl, HR, HB5, HX, HOS⟩ := hrel
      by_cases hkm : k < m
      · have hkm' : (k : Int) < m := by omega
        obtain ⟨⟨sc, sn⟩, hsk⟩ : ∃ x, ss[k]? = some x := ⟨_, List.getElem?_eq_getElem (by rw [HSN.out]; exact hkm)⟩
        obtain ⟨bs, ofs, rfl, s0, s1⟩ := step_in HCS.out HSN.out hsk
        have s0 := cell_b HB5.out s0
        have s1 := cell_b HB5.out s1
        have hdr : ss.drop k = (sc, sn) :: ss.drop (k + 1) := by
          have := List.getElem?_eq_some_iff.1 hsk
          rw [← this.2, List.drop_eq_getElem_cons]
        have hx := HX.out
        have ho := HOS.out
        rw [hdr] at hx ho
        have HX2 := Lib.hid hx
        clear hdr hsk hx HX HOS
        go_upto_region 14 with (fail)
        have hP : Below wr.heap.size wr (wr.alloc (.cells #[.bool sc, .int .i64 sn] 71)) ∧ (wr.alloc (.cells #[.bool sc, .int .i64 sn] 71)).cell? ⟨wr.heap.size, 0, none⟩ = some (.bool sc) ∧ (wr.alloc (.cells #[.bool sc, .int .i64 sn] 71)).cell? ⟨wr.heap.size, 1, none⟩ = some (.int .i64 sn) :=
          ⟨below_alloc (Below.refl _ _) _, (blk_cell (blk_new wr _) 0).trans rfl, (blk_cell (blk_new wr _) 1).trans rfl⟩
        refine world_gen (P := fun w7 => Below wr.heap.size wr w7 ∧ w7.cell? ⟨wr.heap.size, 0, none⟩ = some (.bool sc) ∧ w7.cell? ⟨wr.heap.size, 1, none⟩ = some (.int .i64 sn)) hP (fun w7 h7 => ?_)
        obtain ⟨hb7, v0, v1⟩ := h7
        have hr7 := Kd.R_below HR.out hb7
        have hb57 := below_step HB5.out hb7
        have hcb := (Kd.R_reads' HR.out).2.1
        clear hP hb7 HR HB5 s0 s1
        have HR := Lib.hid hr7
        have HB5 := Lib.hid hb57
        clear hr7 hb57
        obtain ⟨g7, hg7⟩ : ∃ g, wr.heap.size = g := ⟨_, rfl⟩
        rw [hg7] at v0 v1 ⊢
        clear hg7
        have h57 := HB5.out.size
        rcases sc with _ | _
        · obtain ⟨o1, o2, o3⟩ := ho
          have HO3 := Lib.hid o3
          clear o3
          go_wp2_with (first | ((with_reducible refine gate_builtin (b := .append) (xs := #[.tmp 61, .tmp 65]) rfl ?_); at_builtin; go_must (refine Kd.R_append (Kd.int .u8) (w0 := _) w5.heap.size rfl (.tmp 61) (.tmp 65) 28 5 (.int .u8 0) 1 rfl Try.underlying28 info5 rfl (by decide) (by omega) (.slice Ab bl.length cb) bl sn [.int .u8 sn] (fun _ => True) (fun _ => False) rfl rfl ?aP (fun _ h => h.elim) (fun _ _ => trivial) HR.out HB5.out h57 ?aL ?_; (case aP => exact rfl); (case aL => omega); intro vA wA ho hb hg hat; obtain ⟨AB2, cB2, rfl⟩ := Kd.R_slice ho; have HR2 := Lib.hid ho; have HB6 := Lib.hid hb; clear ho hb hg hat)))
          exact ⟨⟨k + 1, AB2, cB2, bl ++ [sn], _, by rw [List.length_append]; rfl, rfl, by go_num, by omega, by rw [List.length_append]; simp; omega, HR2, HB6, Lib.hid (by rw [HX2.out]; rfl), Lib.hid (by rw [List.length_append]; exact HO3.out)⟩, by simp [intOf]; omega⟩
        · obtain ⟨o1, o2, o3⟩ := ho
          obtain ⟨n9, rfl⟩ := Int.eq_ofNat_of_zero_le o1
          have HO3 := Lib.hid o3
          have hn9 : n9 ≤ bl.length := by omega
          have hn9I : (n9 : Int) ≤ cb := by omega
          have HT9 : Hid ((bl.take n9).length = n9) := Lib.hid (by rw [List.length_take]; omega)
          clear o3
          go_wp2
          exact ⟨⟨k + 1, Ab, cb, bl.take n9, _, by rw [HT9.out], rfl, by go_num, by omega, by rw [HT9.out]; omega, Lib.hid (by rw [HT9.out]; exact Kd.R_take HR.out hn9), HB5, Lib.hid (by rw [HX2.out]; rfl), Lib.hid (by rw [HT9.out]; exact HO3.out)⟩, by simp [intOf]; omega⟩
      · have hkm' : (m : Int) ≤ k := by omega
        have hXe := HX.out
        rw [List.drop_of_length_le (by rw [HSN.out]; omega), crashB] at hXe
        have HXE := Lib.hid hXe
        clear hXe HX HOS
        go_upto_region 18 with (fail)
        obtain ⟨S3, V3, hT3, hU3, hS3⟩ := HN.out
        have hb3 := below_drew1 HB5.out
        have hr3 := Kd.R_drewN HR.out 1
        have hT4 := TapeIs.below hT3 hb3
        have HSC := Lib.hid (show (World.drew wr).cell? ⟨r2, i * 3, none⟩ = some (V3 (i * 3)) ∧ (World.drew wr).cell? ⟨r2, i * 3 + 1, none⟩ = some (V3 (i * 3 + 1)) ∧ (World.drew wr).cell? ⟨r2, i * 3 + 2, none⟩ = some (V3 (i * 3 + 2)) from ⟨hT4.cell (by omega), hT4.cell (by omega), hT4.cell (by omega)⟩)
        have HTW := Lib.hid hT3
        have HB6 := Lib.hid hb3
        have HR6 := Lib.hid (Kd.R_reads' hr3)
        clear hT3 hT4 hb3 hr3
        have HBW := Lib.hid HB5.out.size
        have HBW := Lib.hid HB5.out.size
        go_region_law (first | ((refine Kd.R_append_rows_step (Kd.int .u8) (w0 := _) w5.heap.size rfl (.tmp 71) (.tmp 72) 28 5 (.int .u8 0) 1 rfl Try.underlying28 info5 rfl (by decide) (by decide) (.slice (some ⟨wr.heap.size, 0, none⟩) 0 0) [] bl _ _ _ (fun k => wr.heap.size ≤ k) (fun _ => False) rfl rfl ?aO ?aR (fun x cs h => h) (fun _ h => h.elim) ?aF (Below.refl _ _) ?aS ?aL ?_); (case aL => (simp; omega)); (case aO => exact R_empty (blk_new wr _) HBW.out (Nat.le_refl _)); (case aR => exact Kd.C_below HR6.out.2.2 (below_alloc (Below.refl _ _) _)); (case aF => exact fun k hk => Nat.le_trans (below_alloc (Below.refl wr.heap.size wr) (.cells #[] 5)).size hk); (case aS => exact Nat.le_trans HBW.out (below_alloc (Below.refl wr.heap.size wr) (.cells #[] 5)).size); intro vA wA ho hb hg hat; rw [List.nil_append] at ho; obtain ⟨AW, cW, rfl⟩ := Kd.R_slice ho; have HR8 := Lib.hid ho; have hall : Below w5.heap.size w5 wA := Below.trans (below_drew1 (below_step HB5.out (below_alloc (Below.refl _ _) (.cells #[] 5)))) hb; have hta := TapeIs.below HTW.out hall; have u0 := hta.cell (j := i * 3) (by omega); have u1 := hta.cell (j := i * 3 + 1) (by omega); have u2 := hta.cell (j := i * 3 + 2) (by omega); have t0 := hta.free (i * 3); have t1 := hta.free (i * 3 + 1); have t2 := hta.free (i * 3 + 2); have HALL := Lib.hid hall; have HG8 := Lib.hid hg; clear ho hb hg hat hall hta))
        have hwW := below_drew1 (below_alloc (Below.refl wr.heap.size wr) (.cells #[] 5))
        have hra : Kd.R (Kd.int .u8) 5 wA w.heap.size (fun k => w5.heap.size ≤ k ∧ k < wr.heap.size) (.slice Ab bl.length cb) bl :=
          Kd.R_lower (Kd.R_grown (Kd.R_mono (Kd.R_below (Kd.R_bound HR.out) hwW) (fun k hk => ⟨hk.2.1, hk.2.2.1⟩)) HG8.out (fun k hk e => by simp [Value.ownBlock] at e; omega)) HB.out.size
        obtain ⟨S', hp, hS'⟩ := put3 HTW.out (by omega) HALL.out HB.out.size hra (Kd.R_lower HR8.out HB.out.size) (fun k hk => hk.1) (fun k hk => Nat.le_trans HB5.out.size hk) (fun k hk hk' => by omega)
        have hrb := HTW.out.2.1
        refine world_gen (P := fun w9 => TapeU w.heap.size (fun k => w.heap.size ≤ k) w9 r2 (part_ sure opn ks (i + 1)) (-1) false ∧ Below w.heap.size w w9) ⟨TapeU.congr ⟨S', _, hp, hrb, fun j k hk => ?_⟩ (fun j hj => ?_), Below.setCell (p := ⟨r2, i * 3 + 2, none⟩) (Below.setCell (p := ⟨r2, i * 3 + 1, none⟩) (Below.setCell (p := ⟨r2, i * 3, none⟩) (below_step HB.out HALL.out) hrb _) hrb _) hrb _⟩ (fun w9 h9 => ?_)
        · rcases hS' j k hk with h | h
          · exact hS3 j k h
          · exact Nat.le_trans HB.out.size h
        · have hbe : crashB ((opn i).take (manyOf ks i (opn i).length)) (sure i) = bl := by rw [← HM.out, HSS.out]; exact HXE.out
          by_cases q2 : j = i * 3 + 2
          · subst q2
            rw [upd_same]
            unfold part_ crashC
            rw [if_pos (by omega), if_pos (by omega)]
          by_cases q1 : j = i * 3 + 1
          · subst q1
            rw [upd_ne _ _ q2, upd_same]
            unfold part_ crashC
            rw [if_pos (by omega), if_neg (by omega), show (i * 3 + 1) / 3 = i by omega, hbe]
          by_cases q0 : j = i * 3
          · subst q0
            rw [upd_ne _ _ q2, upd_ne _ _ q1, upd_same]
            unfold part_ crashC
            rw [if_pos (by omega), if_neg (by omega), show (i * 3) / 3 = i by omega, hbe]
          · rw [upd_ne _ _ q2, upd_ne _ _ q1, upd_ne _ _ q0]
            unfold part_
            by_cases q : j / 3 < i
            · rw [if_pos (by omega), if_pos q]
            · rw [if_neg (by omega), if_neg q]
        obtain ⟨p1, p2⟩ := h9
        have HN := Lib.hid p1
        have HB := Lib.hid p2
        clear p1 p2 hp hra hwW u0 u1 u2 t0 t1 t2
        go_wp2
        exact ⟨⟨i + 1, by go_num, by omega, HN, HB⟩, by simp [intOf]; omega⟩
    · clear x0 x2 HR0 HR2
      have hm0 : m = 0 := by rw [hm]; unfold manyOf; rw [if_neg q]
      subst hm0
      clear hm
      have q' : (ks.length : Int) ≤ i := by omega
      go_upto_region 10 with (fail)
      refine world_gen (P := fun w5 => TapeU w.heap.size (fun k => w.heap.size ≤ k) w5 r2 (part_ sure opn ks i) (-1) false ∧ Below w.heap.size w w5) ⟨HN.out, HB.out⟩ (fun w5 h5 => ?_)
      clear HN HB
      obtain ⟨p1, p2⟩ := h5
      have HN := Lib.hid p1
      have HB := Lib.hid p2
      clear p1 p2
      have hT := HT.out
      obtain ⟨S, V, hT, _, _⟩ := hT
      have hT := hT.below HB.out
      obtain ⟨A0, c0, e0, hR0⟩ := slot_bytes hT (j := i * 3) (by omega) (HS.out i hlt)
      obtain ⟨A2, c2, e2, hR2⟩ := slot_steps hT (j := i * 3 + 2) (by omega) (HO.out i hlt)
      have x0 := hT.cell (j := i * 3) (by omega)
      have x2 := hT.cell (j := i * 3 + 2) (by omega)
      rw [e0] at x0
      rw [e2] at x2
      have HR0 := Lib.hid (OwnB.reads' hR0)
      have HR2 := Lib.hid (Kd.R_reads' hR2)
      clear hT hR0 hR2 e0 e2
      have hmc : (0 : Int) ≤ c2 := by have := HR2.out.2.1; omega
      have HCS := Lib.hid (C_tkS HR2.out.2.2 hml)
      obtain ⟨ss, hss⟩ : ∃ x, (opn i).take 0 = x := ⟨_, rfl⟩
      have hsl : ss.length = 0 := by rw [← hss, List.length_take]; omega
      rw [hss] at HCS
      have HSS := Lib.hid hss
      have HSN := Lib.hid hsl
      have hok0 : Hid (okS (ss.drop 0) (sure i).length) := Lib.hid (by rw [List.drop_zero, ← hss]; exact okS_take _ _ _ (HOK.out i hlt))
      have hmI : (0 : Int) ≤ 100000000 := by omega
      have hsi := HSL.out i hlt
      clear hss hsl
      go_upto_region 12 with (first | ((with_reducible refine gate_dst (N := 38) rfl ?_); refine Kd.R_lit (Kd.int .u8) _ 5 ?hg (N := 38) ?hd (xs := ([] : List (Int))) (inner := []) (ok := fun _ => True) (okp := fun _ => True) ?hr ?hp (fun _ hk => hk) trivial (Below.refl _ _) (Nat.le_refl _) (by simp) ?_; (case hd => rfl); (case hg => rfl); (case hr => first | (go_simp; done) | (go_simp; rfl)); (case hp => exact (Reps.none _ _)); intro vL wL hl hb hg_ hn_; clear hg_ hn_; have HL := Lib.hid hl; have HBL := Lib.hid hb; have x0b := cell_b hb x0; clear x0; have X2L := Lib.hid x2; clear x2 hl hb) | ((with_reducible refine gate_builtin (b := .append) (xs := #[.tmp 38, .tmp 42]) rfl ?_); at_builtin; go_must (refine Kd.R_append_rows (Kd.int .u8) (w0 := _) (_) rfl (.tmp 38) (.tmp 42) 28 5 (.int .u8 0) 1 rfl Try.underlying28 info5 rfl (by decide) (by omega) (vL) ([]) (sure i) _ _ _ (fun _ => True) (fun _ => False) rfl rfl (HL.out) (Kd.C_below HR0.out.2.2 HBL.out) (fun x cs h => h) (fun _ h => h.elim) (fun _ _ => trivial) HBL.out HBL.out.size ?aL ?_; (case aL => (have := HSL.out i hlt; simp; omega)); intro vA wA ho hb hg hat; rw [List.nil_append] at ho; obtain ⟨AV, cV, rfl⟩ := Kd.R_slice ho; have x2 := cell_b hb X2L.out; have HR := Lib.hid ho; have HB5 := Lib.hid hb; clear ho hb hg hat)))
      clear x2
      go_loopw [9, 11, 51] (fun u9 u11 u51 wi => ∃ (k : Nat) (Ab : Option Addr) (cb : Nat) (bl : List Int) (tv : Value), u9 = .slice Ab bl.length cb ∧ u11 = tv ∧ u51 = .int .i64 k ∧ k ≤ 0 ∧ bl.length ≤ 1048576 + k ∧ Hid (Kd.R (Kd.int .u8) 5 wi w5.heap.size (fun _ => True) (.slice Ab bl.length cb) bl) ∧ Hid (Below w5.heap.size w5 wi) ∧ Hid (crashB ss (sure i) = crashB (ss.drop k) bl) ∧ Hid (okS (ss.drop k) bl.length)) (fun _ _ u51 _ => 0 - (intOf u51).toNat)
      case atStart => exact ⟨0, AV, cV, sure i, _, rfl, rfl, rfl, Nat.zero_le _, by omega, HR, HB5, Lib.hid rfl, hok0⟩
      clear HR HB5 hok0
      obtain ⟨k, Ab, cb, bl, tv, rfl, rfl, rfl, hk2, hbl, HR, HB5, HX, HOS⟩ := hrel
      by_cases hkm : k < 0
      · exact absurd hkm (Nat.not_lt_zero k)
      · have hkm' : (0 : Int) ≤ k := by omega
        have hXe := HX.out
        rw [List.drop_of_length_le (by rw [HSN.out]; omega), crashB] at hXe
        have HXE := Lib.hid hXe
        clear hXe HX HOS
        go_upto_region 18 with (fail)
        obtain ⟨S3, V3, hT3, hU3, hS3⟩ := HN.out
        have hb3 := below_drew1 HB5.out
        have hr3 := Kd.R_drewN HR.out 1
        have hT4 := TapeIs.below hT3 hb3
        have HSC := Lib.hid (show (World.drew wr).cell? ⟨r2, i * 3, none⟩ = some (V3 (i * 3)) ∧ (World.drew wr).cell? ⟨r2, i * 3 + 1, none⟩ = some (V3 (i * 3 + 1)) ∧ (World.drew wr).cell? ⟨r2, i * 3 + 2, none⟩ = some (V3 (i * 3 + 2)) from ⟨hT4.cell (by omega), hT4.cell (by omega), hT4.cell (by omega)⟩)
        have HTW := Lib.hid hT3
        have HB6 := Lib.hid hb3
        have HR6 := Lib.hid (Kd.R_reads' hr3)
        clear hT3 hT4 hb3 hr3
        have HBW := Lib.hid HB5.out.size
        have HBW := Lib.hid HB5.out.size
        go_region_law (first | ((refine Kd.R_append_rows_step (Kd.int .u8) (w0 := _) w5.heap.size rfl (.tmp 71) (.tmp 72) 28 5 (.int .u8 0) 1 rfl Try.underlying28 info5 rfl (by decide) (by decide) (.slice (some ⟨wr.heap.size, 0, none⟩) 0 0) [] bl _ _ _ (fun k => wr.heap.size ≤ k) (fun _ => False) rfl rfl ?aO ?aR (fun x cs h => h) (fun _ h => h.elim) ?aF (Below.refl _ _) ?aS ?aL ?_); (case aL => (simp; omega)); (case aO => exact R_empty (blk_new wr _) HBW.out (Nat.le_refl _)); (case aR => exact Kd.C_below HR6.out.2.2 (below_alloc (Below.refl _ _) _)); (case aF => exact fun k hk => Nat.le_trans (below_alloc (Below.refl wr.heap.size wr) (.cells #[] 5)).size hk); (case aS => exact Nat.le_trans HBW.out (below_alloc (Below.refl wr.heap.size wr) (.cells #[] 5)).size); intro vA wA ho hb hg hat; rw [List.nil_append] at ho; obtain ⟨AW, cW, rfl⟩ := Kd.R_slice ho; have HR8 := Lib.hid ho; have hall : Below w5.heap.size w5 wA := Below.trans (below_drew1 (below_step HB5.out (below_alloc (Below.refl _ _) (.cells #[] 5)))) hb; have hta := TapeIs.below HTW.out hall; have u0 := hta.cell (j := i * 3) (by omega); have u1 := hta.cell (j := i * 3 + 1) (by omega); have u2 := hta.cell (j := i * 3 + 2) (by omega); have t0 := hta.free (i * 3); have t1 := hta.free (i * 3 + 1); have t2 := hta.free (i * 3 + 2); have HALL := Lib.hid hall; have HG8 := Lib.hid hg; clear ho hb hg hat hall hta))
        have hwW := below_drew1 (below_alloc (Below.refl wr.heap.size wr) (.cells #[] 5))
        have hra : Kd.R (Kd.int .u8) 5 wA w.heap.size (fun k => w5.heap.size ≤ k ∧ k < wr.heap.size) (.slice Ab bl.length cb) bl :=
          Kd.R_lower (Kd.R_grown (Kd.R_mono (Kd.R_below (Kd.R_bound HR.out) hwW) (fun k hk => ⟨hk.2.1, hk.2.2.1⟩)) HG8.out (fun k hk e => by simp [Value.ownBlock] at e; omega)) HB.out.size
        obtain ⟨S', hp, hS'⟩ := put3 HTW.out (by omega) HALL.out HB.out.size hra (Kd.R_lower HR8.out HB.out.size) (fun k hk => hk.1) (fun k hk => Nat.le_trans HB5.out.size hk) (fun k hk hk' => by omega)
        have hrb := HTW.out.2.1
        refine world_gen (P := fun w9 => TapeU w.heap.size (fun k => w.heap.size ≤ k) w9 r2 (part_ sure opn ks (i + 1)) (-1) false ∧ Below w.heap.size w w9) ⟨TapeU.congr ⟨S', _, hp, hrb, fun j k hk => ?_⟩ (fun j hj => ?_), Below.setCell (p := ⟨r2, i * 3 + 2, none⟩) (Below.setCell (p := ⟨r2, i * 3 + 1, none⟩) (Below.setCell (p := ⟨r2, i * 3, none⟩) (below_step HB.out HALL.out) hrb _) hrb _) hrb _⟩ (fun w9 h9 => ?_)
        · rcases hS' j k hk with h | h
          · exact hS3 j k h
          · exact Nat.le_trans HB.out.size h
        · have hbe : crashB ((opn i).take (manyOf ks i (opn i).length)) (sure i) = bl := by rw [← HM.out, HSS.out]; exact HXE.out
          by_cases q2 : j = i * 3 + 2
          · subst q2
            rw [upd_same]
            unfold part_ crashC
            rw [if_pos (by omega), if_pos (by omega)]
          by_cases q1 : j = i * 3 + 1
          · subst q1
            rw [upd_ne _ _ q2, upd_same]
            unfold part_ crashC
            rw [if_pos (by omega), if_neg (by omega), show (i * 3 + 1) / 3 = i by omega, hbe]
          by_cases q0 : j = i * 3
          · subst q0
            rw [upd_ne _ _ q2, upd_ne _ _ q1, upd_same]
            unfold part_ crashC
            rw [if_pos (by omega), if_neg (by omega), show (i * 3) / 3 = i by omega, hbe]
          · rw [upd_ne _ _ q2, upd_ne _ _ q1, upd_ne _ _ q0]
            unfold part_
            by_cases q : j / 3 < i
            · rw [if_pos (by omega), if_pos q]
            · rw [if_neg (by omega), if_neg q]
        obtain ⟨p1, p2⟩ := h9
        have HN := Lib.hid p1
        have HB := Lib.hid p2
        clear p1 p2 hp hra hwW u0 u1 u2 t0 t1 t2
        go_wp2
        exact ⟨⟨i + 1, by go_num, by omega, HN, HB⟩, by simp [intOf]; omega⟩
  · have hi : i = 4 := by omega
    subst hi
    go_wp2
    go_ret
    exact ⟨_, rfl, TapeU.congr HN.out (fun j hj => by unfold part_; rw [if_pos (by omega)]), HB.out⟩
end Go.Proofs.Ytbccjamcfodeiaa.Tape6
