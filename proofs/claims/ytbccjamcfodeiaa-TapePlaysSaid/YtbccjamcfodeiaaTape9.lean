/- PROVED: the methods of a tape, on states, over things that lie apart. No condition beyond what each line says. -/
import Derived.Test.YtbccjamcfodeiaaTape8
import Derived.Test.YtbccjamcfodeiaaLRead
import Derived.Test.YtbccjamcfodeiaaWApart
import Derived.Test.YtbccjamcfodeiaaWKept
import Derived.WalkKit
import Derived.WalkSpells
import Derived.WalkLawsBesides
import Derived.WalkMore
import Derived.Outline
import Derived.Lib.Hide
import Derived.BigQuiet
import Derived.Deep.QuietTactic
import Derived.Deep.RegionHeld3
import Derived.Deep.RegionLaw
import Derived.Deep.LoopGhost
import Derived.Deep.DeepCutAuto
namespace Go.Proofs.Ytbccjamcfodeiaa.Tape9
open Go.RowKit Go.Proofs.Ytbccjamcfodeiaa.PTapePlays Go.Proofs.YtbccjamcfodeiaaW.PrintWords Go.Proofs.YtbccjamcfodeiaaW.PrintLast Go.Proofs.YtbccjamcfodeiaaW.PrintMore
open Go.Proofs.Ytbccjamcfodeiaa.Tape Go.Proofs.Ytbccjamcfodeiaa.Tape2 Go.Proofs.Ytbccjamcfodeiaa.Tape3 Go.Proofs.Ytbccjamcfodeiaa.Tape4 Go.Proofs.Ytbccjamcfodeiaa.Tape5 Go.Proofs.Ytbccjamcfodeiaa.Tape6 Go.Proofs.Ytbccjamcfodeiaa.Tape7 Go.Proofs.Ytbccjamcfodeiaa.Tape8
set_option linter.unusedSimpArgs false
set_option linter.unusedVariables false
theorem set_same {α : Type} {ts : List α} {i : Nat} {t : α} (h : ts[i]? = some t) : ts.set i t = ts := by
  apply List.ext_getElem?
  intro j
  by_cases q : j = i
  · subst q
    rw [List.getElem?_set_self (List.getElem?_eq_some_iff.1 h).1, h]
  · rw [List.getElem?_set_ne (Ne.symm q)]
/-- What a step answers, and what lies there behind it. -/
def StepY (base : Nat) (ts : List Thing) (i r : Nat) (x : Int × TS) (w : World) (e : Ending) (w' : World) : Prop :=
  e = .returned (.int .i64 x.1) ∧ Apt base w' (ts.set i (tape r x.2)) ∧ Below base w w'
theorem step_same {base : Nat} {ts : List Thing} {i r : Nat} {s : TS} {w w' : World} {n : Int} {e : Ending} (h : Apt base w ts) (ht : ts[i]? = some (tape r s)) (he : e = .returned (.int .i64 n)) (hw : w = w') : StepY base ts i r (n, s) w e w' := by
  subst hw
  exact ⟨he, by rw [set_same ht]; exact h, Below.refl _ _⟩
/-- Something new lies there. -/
def NewY (base : Nat) (ts : List Thing) (w : World) (r : Nat) (s : TS) (e : Ending) (w' : World) : Prop :=
  e = .returned (.pointer (some ⟨r, 0, none⟩)) ∧ Apt base w' (ts ++ [tape r s]) ∧ Below w.heap.size w w'
theorem new_y (base : Nat) (ts : List Thing) (w : World) (h : Apt base w ts) (hbw : base ≤ w.heap.size) : Calls Try.prog 12 #[] w fun e w' => ∃ r, NewY base ts w r newS e w' :=
  (new_ok base w hbw).mono fun e w' ⟨r, he, ht, hb⟩ => ⟨r, he, h.add hb (t := tape r newS) (TapeU.congr ht (fun j _ => by
    show Cof newS j = fresh j
    unfold Cof fresh newS
    have h3 : j % 3 = 0 ∨ j % 3 = 1 ∨ j % 3 = 2 := by omega
    rcases h3 with q | q | q <;> simp [q])), hb⟩
theorem append_y (base : Nat) (ts : List Thing) (i j r n : Nat) (s : TS) (t : Int) (A : Option Addr) (c : Nat) (b : List Int) (w : World) (h : Apt base w ts) (hi : ts[i]? = some (tape r s)) (hj : ts[j]? = some (row (.slice A b.length c) b)) (hij : j ≠ i) (hg : Fine n s)
    (hn : n + b.length ≤ 100000000) (hb : b.length ≤ 2000000) (hby : ∀ x ∈ b, 0 ≤ x ∧ x < 256) (hbw : base ≤ w.heap.size) :
    Calls Try.prog 13 #[.pointer (some ⟨r, 0, none⟩), .int .i64 t, .slice A b.length c] w (StepY base ts i r (appS s t b) w) := by
  obtain ⟨U, hT, hO, hP⟩ := h.op hi
  have hR : Kd.R (Kd.int .u8) 5 w base (fun k => ¬ U k) (.slice A b.length c) b := hO j _ hij hj
  have hT : TapeU base U w r (Cof s) s.f s.d := hT
  unfold appS
  by_cases q : 0 ≤ t ∧ t < 4
  · rw [if_neg (fun hq => hq q)]
    obtain ⟨k, rfl⟩ := Int.eq_ofNat_of_zero_le q.1
    have hk : k < 4 := by omega
    obtain ⟨S, V, hTI, hU, hS⟩ := hT
    by_cases q2 : s.d = true
    · rw [if_pos q2]
      exact (append_down r k A b.length c w hk (by rw [← q2]; exact hTI.down)).mono fun e w' ⟨he, hw⟩ => step_same h hi he hw
    · rw [if_neg q2]
      have q2' : s.d = false := by simpa using q2
      by_cases q3 : 1048576 < (s.now ((k : Int)).toNat).length + b.length
      · rw [if_pos q3]
        obtain ⟨A1, c1, e1, hR1⟩ := slot_bytes hTI (j := k * 3 + 1) (by omega) (cof1 s k)
        have x1 := hTI.cell (j := k * 3 + 1) (by omega)
        rw [e1] at x1
        exact (append_full r k A A1 b.length c _ c1 w hk (by rw [← q2']; exact hTI.down) x1 (hg.nl k hk) hb q3).mono fun e w' ⟨he, hw⟩ => step_same h hi he hw
      · rw [if_neg q3]
        have hr := Kd.R_reads' hR
        have q3' : (s.now k).length + b.length ≤ 1048576 := by
          have : (s.now ((k : Int)).toNat).length = (s.now k).length := rfl
          omega
        refine (append_ok base U r k (Cof s) (s.now k) (s.opn k) s.f A c b w (by rw [← q2']; exact ⟨S, V, hTI, hU, hS⟩) hk (cof1 s k) (cof2 s k) hg.f1 hbw q3' (by have := hg.ol k hk; omega) hr.2.2 hr.2.1 hby (fun a ha => hR.1 a.block (by rw [ha]; rfl))).mono fun e w' hpost => ?_
        obtain ⟨he, C', hT', hE, hB, hK⟩ := hpost
        refine ⟨he, hP w' (tape r (put_ s k (appT b (s.now k) (s.opn k) s.f false).2)) hK.1 (TapeU.congr hT' (fun j _ => put_cof hE j)) hK, hB⟩
  · rw [if_pos q]
    exact (append_bad r t A b.length c w q).mono fun e w' ⟨he, hw⟩ => step_same h hi he hw
theorem setf_cof (s : TS) (f : Int) (d : Bool) : Cof { s with f := f, d := d } = Cof s := rfl
theorem cut_y (base : Nat) (ts : List Thing) (i r n : Nat) (s : TS) (t k : Int) (w : World) (h : Apt base w ts) (hi : ts[i]? = some (tape r s)) (hg : Fine n s) (hn : n ≤ 100000000) (hbw : base ≤ w.heap.size) :
    Calls Try.prog 22 #[.pointer (some ⟨r, 0, none⟩), .int .i64 t, .int .i64 k] w (StepY base ts i r (cutS s t k) w) := by
  obtain ⟨U, hT, hO, hP⟩ := h.op hi
  have hT : TapeU base U w r (Cof s) s.f s.d := hT
  unfold cutS
  by_cases q : 0 ≤ t ∧ t < 4
  · rw [if_neg (fun hq => hq q)]
    obtain ⟨j, rfl⟩ := Int.eq_ofNat_of_zero_le q.1
    have hj : j < 4 := by omega
    rw [show ((j : Int)).toNat = j from rfl]
    obtain ⟨S, V, hTI, hU, hS⟩ := hT
    obtain ⟨A1, c1, e1, hR1⟩ := slot_bytes hTI (j := j * 3 + 1) (by omega) (cof1 s j)
    have x1 := hTI.cell (j := j * 3 + 1) (by omega)
    rw [e1] at x1
    by_cases q1 : k < 0 ∨ (s.now j).length < k
    · rw [if_pos q1]
      exact (cut_arg r j k A1 _ c1 w hj x1 q1).mono fun e w' ⟨he, hw⟩ => step_same h hi he hw
    · rw [if_neg q1]
      obtain ⟨m, rfl⟩ := Int.eq_ofNat_of_zero_le (show 0 ≤ k by omega)
      by_cases q2 : s.d = true
      · rw [if_pos q2]
        exact (cut_down r j m A1 _ c1 w hj (by rw [← q2]; exact hTI.down) x1 (by omega)).mono fun e w' ⟨he, hw⟩ => step_same h hi he hw
      · rw [if_neg q2]
        have q2' : s.d = false := by simpa using q2
        refine (cut_ok base U r j m (Cof s) (s.now j) (s.opn j) s.f w (by rw [← q2']; exact ⟨S, V, hTI, hU, hS⟩) hj (cof1 s j) (cof2 s j) hg.f1 hbw (by omega) (hg.nl j hj) (by have := hg.ol j hj; omega)).mono fun e w' hpost => ?_
        obtain ⟨he, hT', hB, hK⟩ := hpost
        by_cases q3 : (powT s.f false).1 = true
        · rw [if_pos q3] at he hT' ⊢
          refine ⟨he, hP w' (tape r (put_ s j _)) hK.1 (TapeU.congr hT' (fun i _ => put_cof (x := (List.take m (s.now j), s.opn j ++ [(true, (m : Int))], (powT s.f false).2)) ⟨?_, ?_, fun i h1 h2 => ?_⟩ i)) hK, hB⟩
          · rw [upd_ne _ _ (by omega), upd_same]
          · rw [upd_same]
          · rw [upd_ne _ _ h2, upd_ne _ _ h1]
        · rw [if_neg q3] at he hT' ⊢
          exact ⟨he, hP w' (tape r { s with f := (powT s.f false).2.1, d := (powT s.f false).2.2 }) hK.1 hT' hK, hB⟩
  · rw [if_pos q]
    exact (cut_bad r t k w q).mono fun e w' ⟨he, hw⟩ => step_same h hi he hw
theorem sync_y (base : Nat) (ts : List Thing) (i r n : Nat) (s : TS) (t : Int) (w : World) (h : Apt base w ts) (hi : ts[i]? = some (tape r s)) (hg : Fine n s) (hn : n ≤ 100000000) (hbw : base ≤ w.heap.size) :
    Calls Try.prog 17 #[.pointer (some ⟨r, 0, none⟩), .int .i64 t] w (StepY base ts i r (syncS s t) w) := by
  obtain ⟨U, hT, hO, hP⟩ := h.op hi
  have hT : TapeU base U w r (Cof s) s.f s.d := hT
  unfold syncS
  by_cases q : 0 ≤ t ∧ t < 4
  · rw [if_neg (fun hq => hq q)]
    obtain ⟨j, rfl⟩ := Int.eq_ofNat_of_zero_le q.1
    have hj : j < 4 := by omega
    rw [show ((j : Int)).toNat = j from rfl]
    by_cases q2 : s.d = true
    · obtain ⟨S, V, hTI, hU, hS⟩ := hT
      rw [if_pos q2]
      exact (sync_down r j w hj (by rw [← q2]; exact hTI.down)).mono fun e w' ⟨he, hw⟩ => step_same h hi he hw
    · rw [if_neg q2]
      have q2' : s.d = false := by simpa using q2
      refine (sync_ok base U r j (Cof s) (s.now j) (s.opn j) s.f w (by rw [← q2']; exact hT) hj (cof1 s j) (cof2 s j) hg.f1 hbw (hg.nl j hj) (by have := hg.ol j hj; omega)).mono fun e w' hpost => ?_
      obtain ⟨he, hT', hB, hK⟩ := hpost
      by_cases q3 : (powT s.f false).1 = true
      · rw [if_pos q3] at he hT' ⊢
        refine ⟨he, hP w' (tape r _) hK.1 (TapeU.congr hT' (fun i _ => cof_eq (s := ⟨upd s.sure j (s.now j), s.now, upd s.opn j [], (powT s.f false).2.1, (powT s.f false).2.2⟩) (fun i => ?_) (fun i => ?_) (fun i => ?_) i)) hK, hB⟩
        · rw [upd_ne _ _ (by omega)]
          show _ = Cont.bytes (upd s.sure j (s.now j) i)
          by_cases q : i = j
          · rw [q, upd_same, upd_same]
          · rw [upd_ne _ _ (by omega), upd_ne _ _ q, cof0]
        · rw [upd_ne _ _ (by omega), upd_ne _ _ (by omega), cof1]
        · show _ = Cont.steps (upd s.opn j [] i)
          by_cases q : i = j
          · rw [q, upd_same, upd_same]
          · rw [upd_ne _ _ (by omega), upd_ne _ _ (by omega), upd_ne _ _ q, cof2]
      · rw [if_neg q3] at he hT' ⊢
        exact ⟨he, hP w' (tape r { s with f := (powT s.f false).2.1, d := (powT s.f false).2.2 }) hK.1 hT' hK, hB⟩
  · rw [if_pos q]
    exact (sync_bad r t w q).mono fun e w' ⟨he, hw⟩ => step_same h hi he hw
/-- What Read answers. -/
def ReadY (base : Nat) (ts : List Thing) (x : List Int × Int) (w : World) (v : Value) (e : Ending) (w' : World) : Prop :=
  e = .returned (.tuple #[v, .int .i64 x.2]) ∧ Apt base w' (ts ++ [row v x.1]) ∧ Below w.heap.size w w'
theorem read_y (base : Nat) (ts : List Thing) (i r n : Nat) (s : TS) (t : Int) (w : World) (h : Apt base w ts) (hi : ts[i]? = some (tape r s)) (hg : Fine n s) (hbw : base ≤ w.heap.size) :
    Calls Try.prog 14 #[.pointer (some ⟨r, 0, none⟩), .int .i64 t] w fun e w' => ∃ v, ReadY base ts (readS s t) w v e w' := by
  obtain ⟨U, hT, hO, hP⟩ := h.op hi
  have hT : TapeU base U w r (Cof s) s.f s.d := hT
  have nilc : ∀ x : Int, ∀ e w', e = .returned (.tuple #[.slice none 0 0, .int .i64 x]) ∧ w = w' → ∃ v, ReadY base ts ([], x) w v e w' := by
    rintro x e w' ⟨he, rfl⟩
    exact ⟨_, he, h.add (Below.refl _ _) (t := row (.slice none 0 0) []) (Kd.R_nil _ _ _ _ _), Below.refl _ _⟩
  unfold readS
  by_cases q : 0 ≤ t ∧ t < 4
  · rw [if_neg (fun hq => hq q)]
    obtain ⟨j, rfl⟩ := Int.eq_ofNat_of_zero_le q.1
    have hj : j < 4 := by omega
    rw [show ((j : Int)).toNat = j from rfl]
    by_cases q2 : s.d = true
    · obtain ⟨S, V, hTI, hU, hS⟩ := hT
      rw [if_pos q2]
      exact (read_down r j w hj (by rw [← q2]; exact hTI.down)).mono (nilc 100)
    · rw [if_neg q2]
      have q2' : s.d = false := by simpa using q2
      refine (read_ok base U r j (Cof s) (s.now j) s.f w (by rw [← q2']; exact hT) hj (cof1 s j) (hg.nl j hj)).mono fun e w' hpost => ?_
      obtain ⟨v, he, hR, hB⟩ := hpost
      exact ⟨v, he, h.add hB (t := row v (s.now j)) (Kd.R_lower (Kd.R_mono (Kd.R_bound hR) (fun k hk => hk.2.1)) hbw), hB⟩
  · rw [if_pos q]
    exact (read_bad r t w q).mono (nilc 1)
theorem open_y (base : Nat) (ts : List Thing) (i r : Nat) (s : TS) (t : Int) (w : World) (h : Apt base w ts) (hi : ts[i]? = some (tape r s)) :
    Calls Try.prog 21 #[.pointer (some ⟨r, 0, none⟩), .int .i64 t] w fun e w' => e = .returned (.int .i64 (openS s t)) ∧ w = w' := by
  obtain ⟨U, hT⟩ := h.get hi
  have hT : TapeU base U w r (Cof s) s.f s.d := hT
  unfold openS
  by_cases q : 0 ≤ t ∧ t < 4
  · rw [if_neg (fun hq => hq q)]
    obtain ⟨j, rfl⟩ := Int.eq_ofNat_of_zero_le q.1
    exact open_ok base U r j (Cof s) (s.opn j) s.f s.d w hT (by omega) (cof2 s j)
  · rw [if_pos q]
    exact open_bad r t w q
theorem down_y (base : Nat) (ts : List Thing) (i r : Nat) (s : TS) (w : World) (h : Apt base w ts) (hi : ts[i]? = some (tape r s)) :
    Calls Try.prog 26 #[.pointer (some ⟨r, 0, none⟩)] w fun e w' => e = .returned (.bool s.d) ∧ w = w' := by
  obtain ⟨U, hT⟩ := h.get hi
  obtain ⟨S, V, hTI, hU, hS⟩ := (show TapeU base U w r (Cof s) s.f s.d from hT)
  exact down_ok r s.d w hTI.down
theorem fuse_y (base : Nat) (ts : List Thing) (i r : Nat) (s : TS) (n : Int) (w : World) (h : Apt base w ts) (hi : ts[i]? = some (tape r s)) (hbw : base ≤ w.heap.size) :
    Calls Try.prog 28 #[.pointer (some ⟨r, 0, none⟩), .int .i64 n] w fun e w' => e = .returned (.tuple #[]) ∧ Apt base w' (ts.set i (tape r { s with f := fuseOf n })) ∧ Below base w w' := by
  obtain ⟨U, hT, hO, hP⟩ := h.op hi
  have hT : TapeU base U w r (Cof s) s.f s.d := hT
  refine (fuse_ok base U r (Cof s) s.f s.d n w hT hbw).mono fun e w' hpost => ?_
  obtain ⟨he, hT', hB, hK⟩ := hpost
  have hm : TapeU base (fun k => U k ∨ w.heap.size ≤ k) w' r (Cof s) (fuseOf n) s.d := TapeU.mono hT' (fun k hk => .inl hk)
  exact ⟨he, hP w' (tape r { s with f := fuseOf n }) hK.1 hm hK, hB⟩
theorem crash_y (base : Nat) (ts : List Thing) (i r n : Nat) (s : TS) (A : Option Addr) (c : Nat) (ks : List Int) (w : World) (h : Apt base w ts) (hi : ts[i]? = some (tape r s)) (hg : Fine n s) (hn : n ≤ 100000000) (hC : Kd.C (Kd.int .i64) w A ks.length ks) (hcap : ks.length ≤ c) (hk : ks.length ≤ 1000000) (hbw : base ≤ w.heap.size) :
    Calls Try.prog 19 #[.pointer (some ⟨r, 0, none⟩), .slice A ks.length c] w fun e w' => ∃ r2, NewY base ts w r2 (crashS s ks) e w' := by
  obtain ⟨U, hT⟩ := h.get hi
  have hT : TapeU base U w r (Cof s) s.f s.d := hT
  refine (crash_ok base U r (Cof s) s.sure s.now s.opn s.f s.d A c ks w hT (fun i _ => cof0 s i) (fun i _ => cof2 s i) hg.sl (fun i hi => Nat.le_trans (hg.ol i hi) hn) hg.ok hC hcap hk hbw).mono fun e w' hpost => ?_
  obtain ⟨r2, he, hT', hB⟩ := hpost
  refine ⟨r2, he, h.add hB (t := tape r2 (crashS s ks)) (TapeU.congr (TapeU.lower hT' hbw) (fun j _ => ?_)), hB⟩
  refine cof_eq (s := crashS s ks) (fun i => ?_) (fun i => ?_) (fun i => ?_) j
  · unfold crashC
    rw [if_neg (by omega), show i * 3 / 3 = i by omega]; rfl
  · unfold crashC
    rw [if_neg (by omega), show (i * 3 + 1) / 3 = i by omega]; rfl
  · unfold crashC
    rw [if_pos (by omega)]; rfl
theorem own_y (base : Nat) (ts : List Thing) (A : Option Addr) (c : Nat) (b : List Int) (w : World) (h : Apt base w ts) (hC : Kd.C (Kd.int .u8) w A b.length b) (hcap : b.length ≤ c) (hb : b.length ≤ 1000000000) (hbw : base ≤ w.heap.size) :
    Calls Try.prog 18 #[.slice A b.length c] w fun e w' => ∃ v, e = .returned v ∧ Apt base w' (ts ++ [row v b]) ∧ Below w.heap.size w w' := by
  refine (juratlaw10_own.calls A c b b w hC hcap (by
    show (if ([] : List Int).length + b.length < 140737488355328 then some ([] ++ b) else none) = some b
    rw [if_pos (by simp; omega)]; rfl)).mono fun e w' ⟨v, he, hR, hB⟩ => ⟨v, he, h.add hB (t := row v b) (Kd.R_lower (Kd.R_mono (Kd.R_bound hR) (fun k hk => hk.2.1)) hbw), hB⟩
theorem row_at {base : Nat} {ts : List Thing} {w : World} {i : Nat} {v : Value} {l : List Int} (h : Apt base w ts) (hi : ts[i]? = some (row v l)) : ∃ A c, v = .slice A l.length c ∧ l.length ≤ c ∧ Kd.C (Kd.int .u8) w A l.length l := by
  obtain ⟨U, hR⟩ := h.get hi
  exact Kd.R_reads hR
/-- The same, with what they come to named. -/
theorem app_z (base : Nat) (ts ts' : List Thing) (i j m r n nb : Nat) (s s' : TS) (t k : Int) (A : Option Addr) (c : Nat) (b : List Int) (w : World) (h : Apt base w ts) (hi : ts[i]? = some (tape r s)) (hj : ts[j]? = some (row (.slice A nb c) b)) (hij : j ≠ i) (hnb : nb = b.length) (hg : Fine n s)
    (hn : n + b.length ≤ 100000000) (hb : b.length ≤ 2000000) (hby : ∀ x ∈ b, 0 ≤ x ∧ x < 256) (hbw : base ≤ w.heap.size) (hx : appS s t b = (k, s')) (ht : (ts.set i (tape r s')).take m = ts') :
    Calls Try.prog 13 #[.pointer (some ⟨r, 0, none⟩), .int .i64 t, .slice A nb c] w fun e w' => e = .returned (.int .i64 k) ∧ Apt base w' ts' ∧ Below base w w' := by
  subst hnb
  refine (append_y base ts i j r n s t A c b w h hi hj hij hg hn hb hby hbw).mono fun e w' hp => ?_
  rw [hx] at hp
  exact ⟨hp.1, by rw [← ht]; exact hp.2.1.take m, hp.2.2⟩
theorem cut_z (base : Nat) (ts ts' : List Thing) (i m r n : Nat) (s s' : TS) (t a k : Int) (w : World) (h : Apt base w ts) (hi : ts[i]? = some (tape r s)) (hg : Fine n s) (hn : n ≤ 100000000) (hbw : base ≤ w.heap.size) (hx : cutS s t a = (k, s')) (ht : (ts.set i (tape r s')).take m = ts') :
    Calls Try.prog 22 #[.pointer (some ⟨r, 0, none⟩), .int .i64 t, .int .i64 a] w fun e w' => e = .returned (.int .i64 k) ∧ Apt base w' ts' ∧ Below base w w' := by
  refine (cut_y base ts i r n s t a w h hi hg hn hbw).mono fun e w' hp => ?_
  rw [hx] at hp
  exact ⟨hp.1, by rw [← ht]; exact hp.2.1.take m, hp.2.2⟩
theorem sync_z (base : Nat) (ts ts' : List Thing) (i m r n : Nat) (s s' : TS) (t k : Int) (w : World) (h : Apt base w ts) (hi : ts[i]? = some (tape r s)) (hg : Fine n s) (hn : n ≤ 100000000) (hbw : base ≤ w.heap.size) (hx : syncS s t = (k, s')) (ht : (ts.set i (tape r s')).take m = ts') :
    Calls Try.prog 17 #[.pointer (some ⟨r, 0, none⟩), .int .i64 t] w fun e w' => e = .returned (.int .i64 k) ∧ Apt base w' ts' ∧ Below base w w' := by
  refine (sync_y base ts i r n s t w h hi hg hn hbw).mono fun e w' hp => ?_
  rw [hx] at hp
  exact ⟨hp.1, by rw [← ht]; exact hp.2.1.take m, hp.2.2⟩
theorem read_z (base : Nat) (ts : List Thing) (i r n : Nat) (s : TS) (t k : Int) (l : List Int) (w : World) (h : Apt base w ts) (hi : ts[i]? = some (tape r s)) (hg : Fine n s) (hbw : base ≤ w.heap.size) (hx : readS s t = (l, k)) :
    Calls Try.prog 14 #[.pointer (some ⟨r, 0, none⟩), .int .i64 t] w fun e w' => ∃ A c, e = .returned (.tuple #[.slice A l.length c, .int .i64 k]) ∧ Apt base w' (ts ++ [row (.slice A l.length c) l]) ∧ Below w.heap.size w w' := by
  refine (read_y base ts i r n s t w h hi hg hbw).mono fun e w' hp => ?_
  rw [hx] at hp
  obtain ⟨v, h1, h2, h3⟩ := hp
  obtain ⟨A, c, rfl, _, _⟩ := row_at h2 (i := ts.length) (v := v) (l := l) (by rw [List.getElem?_append_right (Nat.le_refl _)]; simp)
  exact ⟨A, c, h1, h2, h3⟩
theorem open_z (base : Nat) (ts : List Thing) (i r : Nat) (s : TS) (t k : Int) (w : World) (h : Apt base w ts) (hi : ts[i]? = some (tape r s)) (hx : openS s t = k) :
    Calls Try.prog 21 #[.pointer (some ⟨r, 0, none⟩), .int .i64 t] w fun e w' => e = .returned (.int .i64 k) ∧ w = w' := by
  subst hx
  exact open_y base ts i r s t w h hi
theorem crash_z (base : Nat) (ts : List Thing) (i r n nk : Nat) (s s' : TS) (A : Option Addr) (c : Nat) (ks : List Int) (w : World) (h : Apt base w ts) (hi : ts[i]? = some (tape r s)) (hg : Fine n s) (hn : n ≤ 100000000) (hnk : nk = ks.length) (hC : Kd.C (Kd.int .i64) w A ks.length ks) (hcap : ks.length ≤ c) (hk : ks.length ≤ 1000000) (hbw : base ≤ w.heap.size) (hx : crashS s ks = s') :
    Calls Try.prog 19 #[.pointer (some ⟨r, 0, none⟩), .slice A nk c] w fun e w' => ∃ r2, NewY base ts w r2 s' e w' := by
  subst hx; subst hnk
  exact crash_y base ts i r n s A c ks w h hi hg hn hC hcap hk hbw
theorem reads_at {base : Nat} {ts : List Thing} {w : World} {i n c : Nat} {A : Option Addr} {l : List Int} (h : Apt base w ts) (hi : ts[i]? = some (row (.slice A n c) l)) : l.length ≤ c ∧ Kd.C (Kd.int .u8) w A l.length l := by
  obtain ⟨A', c', e, h1, h2⟩ := row_at h hi
  injection e with e1 e2 e3
  subst e1; subst e3
  exact ⟨h1, h2⟩
theorem drop_cons {l : List Int} {i : Nat} (h : i < l.length) : l.drop i = l.getD i 0 :: l.drop (i + 1) := by
  rw [List.drop_eq_getElem_cons h, List.getD, List.getElem?_eq_getElem h]; rfl
theorem same_l (l m : List Int) (h : l.length = m.length) (hb : l.length ≤ 4000000) : ∀ (k i : Nat), i ≤ l.length → l.length - i < k → juratref01_Same.l0 k l m i = some (decide (l.drop i = m.drop i))
  | 0, i, _, hk => by omega
  | k + 1, i, hi, hk => by
    unfold juratref01_Same.l0
    by_cases q : i < l.length
    · rw [if_pos (by omega), if_pos (by omega), if_pos (by omega)]
      have e1 := drop_cons q
      have e2 := drop_cons (l := m) (i := i) (by omega)
      have r1 : rd l (i : Int) = l.getD i 0 := rfl
      have r2 : rd m (i : Int) = m.getD i 0 := rfl
      rw [r1, r2, e1, e2]
      by_cases q2 : l.getD i 0 = m.getD i 0
      · rw [if_pos q2, show wrap64 ((i : Int) + 1) = ((i + 1 : Nat) : Int) by unfold wrap64; omega, same_l l m h hb k (i + 1) (by omega) (by omega), q2]
        congr 1
        simp
      · rw [if_neg q2]
        congr 1
        symm
        rw [decide_eq_false_iff_not]
        intro e
        exact q2 (List.cons.inj e).1
    · rw [if_neg (by omega), List.drop_of_length_le (by omega), List.drop_of_length_le (by omega)]
      simp
theorem same_f (l m : List Int) (hb : l.length ≤ 4000000) : juratref01_Same.f (l.length + 1) l m = some (decide (l = m)) := by
  unfold juratref01_Same.f
  by_cases q : l.length = m.length
  · rw [if_pos (by omega)]
    have := same_l l m q hb (l.length + 1) 0 (by omega) (by omega)
    simpa using this
  · rw [if_neg (by omega)]
    congr 1
    symm
    rw [decide_eq_false_iff_not]
    intro e
    exact q (by rw [e])
theorem same_y (A B : Option Addr) (n0 n1 c0 c1 : Nat) (l m : List Int) (w : World) (e0 : n0 = l.length) (e1 : n1 = m.length) (h0 : Kd.C (Kd.int .u8) w A l.length l) (h1 : l.length ≤ c0) (h2 : Kd.C (Kd.int .u8) w B m.length m) (h3 : m.length ≤ c1) (hb : l.length ≤ 4000000) :
    Calls Try.prog 20 #[.slice A n0 c0, .slice B n1 c1] w fun e w' => e = .returned (.bool (decide (l = m))) ∧ Below w.heap.size w w' := by
  subst e0; subst e1
  exact (juratref01_Same.calls (l.length + 1) A c0 l B c1 m _ w h0 h1 h2 h3 (same_f l m hb)).mono fun e w' ⟨he, hd⟩ => ⟨he, hd.below⟩
end Go.Proofs.Ytbccjamcfodeiaa.Tape9
