/- PROVED: the reference's methods on states, over things that lie apart. No condition beyond what each line says. -/
import Derived.Test.YtbccjamcfodeiaaRTape4
import Derived.Test.YtbccjamcfodeiaaLRead
import Derived.Test.YtbccjamcfodeiaaWApart
import Derived.Test.YtbccjamcfodeiaaWKept
import Derived.WalkKit
import Derived.WalkSpells
import Derived.WalkLawsBesides
import Derived.WalkMore
import Derived.Outline
import Derived.Lib.Hide
import Derived.BigQuiet
import Derived.Deep.QuietTactic
import Derived.Deep.RegionHeld3
import Derived.Deep.RegionLaw
import Derived.Deep.LoopGhost
import Derived.Deep.DeepCutAuto
namespace Go.Proofs.Ytbccjamcfodeiaa.RTape5
open Go.RowKit Go.Proofs.Ytbccjamcfodeiaa.PTapePlays Go.Proofs.YtbccjamcfodeiaaW.PrintWords Go.Proofs.YtbccjamcfodeiaaW.PrintLast Go.Proofs.YtbccjamcfodeiaaW.PrintMore
open Go.Proofs.Ytbccjamcfodeiaa.Tape Go.Proofs.Ytbccjamcfodeiaa.Tape2 Go.Proofs.Ytbccjamcfodeiaa.Tape3 Go.Proofs.Ytbccjamcfodeiaa.Tape4 Go.Proofs.Ytbccjamcfodeiaa.Tape5 Go.Proofs.Ytbccjamcfodeiaa.Tape6 Go.Proofs.Ytbccjamcfodeiaa.Tape7 Go.Proofs.Ytbccjamcfodeiaa.Tape8 Go.Proofs.Ytbccjamcfodeiaa.Tape9
open Go.Proofs.Ytbccjamcfodeiaa.TapeW Go.Proofs.Ytbccjamcfodeiaa.TapeF Go.Proofs.Ytbccjamcfodeiaa.TapeP Go.Proofs.Ytbccjamcfodeiaa.TapeP2 Go.Proofs.Ytbccjamcfodeiaa.RTape
open Go.Proofs.Ytbccjamcfodeiaa.RTape2 Go.Proofs.Ytbccjamcfodeiaa.RTape3
open Go.Proofs.Ytbccjamcfodeiaa.RTape4
set_option linter.unusedSimpArgs false
set_option linter.unusedVariables false
/-- What the reference's slots lead to. -/
def Rof (s : TS) : Nat → RCont := fun j => if j % 2 = 0 then .bytes (s.sure (j / 2)) else .steps ((s.opn (j / 2)).map cv)
theorem rof0 (s : TS) (i : Nat) : Rof s (i * 2) = .bytes (s.sure i) := by
  unfold Rof
  rw [if_pos (by omega), show i * 2 / 2 = i by omega]
theorem rof1 (s : TS) (i : Nat) : Rof s (i * 2 + 1) = .steps ((s.opn i).map cv) := by
  unfold Rof
  rw [if_neg (by omega), show (i * 2 + 1) / 2 = i by omega]
theorem rof_eq {s : TS} {C : Nat → RCont} (h0 : ∀ i, C (i * 2) = .bytes (s.sure i)) (h1 : ∀ i, C (i * 2 + 1) = .steps ((s.opn i).map cv)) : ∀ j, Rof s j = C j := by
  intro j
  have hj : j = j / 2 * 2 + j % 2 := by omega
  have h3 : j % 2 = 0 ∨ j % 2 = 1 := by omega
  rcases h3 with h | h
  · rw [hj, h, Nat.add_zero, h0, rof0]
  · rw [hj, h, h1, rof1]
/-- The reference's tape in a state. -/
def rtape (r : Nat) (s : TS) : Thing where
  H := fun w base ok => RefU base ok w r (Rof s) s.f s.d
  mono := fun h ht => RefU.mono ht h
  bound := fun h => RefU.bound h
  lower := fun hb h => RefU.lower h hb
  step := fun h hs hm => RefU.step h hs hm
/-- What a step answers, and what lies there behind it. -/
def StepR (base : Nat) (ts : List Thing) (i r : Nat) (x : Int × TS) (w : World) (e : Ending) (w' : World) : Prop :=
  e = .returned (.int .i64 x.1) ∧ Apt base w' (ts.set i (rtape r x.2)) ∧ Below base w w'
section
variable {base : Nat} {ts : List Thing} {i r n : Nat} {s : TS} {w w' : World}
theorem rsame {k : Int} {e : Ending} (h : Apt base w ts) (ht : ts[i]? = some (rtape r s)) (hbw : base ≤ w.heap.size) (he : e = .returned (.int .i64 k)) (hb : Below w.heap.size w w') : StepR base ts i r (k, s) w e w' :=
  ⟨he, by rw [set_same ht]; exact h.below hb, Below.mono hb hbw⟩
theorem rput_cof {j : Nat} {x : List Int × List (Bool × Int) × Int × Bool} {C' : Nat → RCont} (h : ElseR (Rof s) C' j (x.2.1.map cv)) : ∀ i, Rof (put_ s j x) i = C' i := by
  obtain ⟨h1, h2⟩ := h
  refine rof_eq (fun i => ?_) (fun i => ?_)
  · rw [h2 _ (by omega), rof0]; rfl
  · by_cases q : i = j
    · rw [q, h1]; show _ = RCont.steps ((upd s.opn j x.2.1 j).map cv); rw [upd_same]
    · rw [h2 _ (by omega), rof1]; show _ = RCont.steps ((upd s.opn j x.2.1 i).map cv); rw [upd_ne _ _ q]
end
theorem rnew_y (base : Nat) (ts : List Thing) (w : World) (h : Apt base w ts) (hbw : base ≤ w.heap.size) : Calls Try.prog 23 #[] w fun e w' => ∃ r, e = .returned (.pointer (some ⟨r, 0, none⟩)) ∧ Apt base w' (ts ++ [rtape r newS]) ∧ Below w.heap.size w w' :=
  (rnew_ok base w hbw).mono fun e w' ⟨r, he, ht, hb⟩ => ⟨r, he, h.add hb (t := rtape r newS) (RefU.congr ht (fun j _ => by
    show Rof newS j = rfresh j
    unfold Rof rfresh newS
    have h3 : j % 2 = 0 ∨ j % 2 = 1 := by omega
    rcases h3 with q | q <;> simp [q])), hb⟩
theorem RefU.both {base : Nat} {U : Nat → Prop} {w : World} {r : Nat} {C : Nat → RCont} {f : Int} {d : Bool} (h : RefU base U w r C f d) : RefU base (fun k => U k ∧ base ≤ k) w r C f d := by
  obtain ⟨S, V, h1, h2, h3⟩ := h
  exact ⟨S, V, h1, ⟨h2, h1.2.1⟩, fun j k hk => ⟨h3 j k hk, (h1.2.2.2.2 j k hk).1⟩⟩
theorem rappend_z (base : Nat) (ts ts' : List Thing) (i m r n nb : Nat) (s s' : TS) (t k0 : Int) (A : Option Addr) (c : Nat) (b : List Int) (w : World) (h : Apt base w ts) (hi : ts[i]? = some (rtape r s)) (hnb : nb = b.length) (hg : Fine n s) (hn : n + b.length ≤ 10000000) (hb : b.length ≤ 2000000) (hC : Kd.C (Kd.int .u8) w A b.length b) (hcap : b.length ≤ c) (hA : ∀ a, A = some a → 0 < b.length → a.block < base) (hbw : base ≤ w.heap.size)
    (hx : appS s t b = (k0, s')) (ht : (ts.set i (rtape r s')).take m = ts') :
    Calls Try.prog 32 #[.pointer (some ⟨r, 0, none⟩), .int .i64 t, .slice A nb c] w fun e w' => e = .returned (.int .i64 k0) ∧ Apt base w' ts' ∧ Below base w w' := by
  subst hnb
  have key : Calls Try.prog 32 #[.pointer (some ⟨r, 0, none⟩), .int .i64 t, .slice A b.length c] w (StepR base ts i r (appS s t b) w) := by
    obtain ⟨U, hT, hO, hP⟩ := h.op hi
    have hT : RefU base U w r (Rof s) s.f s.d := hT
    unfold appS
    by_cases q : 0 ≤ t ∧ t < 4
    · rw [if_neg (fun hq => hq q)]
      obtain ⟨k, rfl⟩ := Int.eq_ofNat_of_zero_le q.1
      have hk : k < 4 := by omega
      have hol := hg.ol k hk
      by_cases q2 : s.d = true
      · rw [if_pos q2]
        obtain ⟨S, V, hTI, hU, hS⟩ := hT
        exact (rappend_down r k A b.length c w hk (by rw [← q2]; exact hTI.down)).mono fun e w' ⟨he, hw⟩ => rsame h hi hbw he (hw ▸ Below.refl _ _)
      · rw [if_neg q2]
        have q2' : s.d = false := by simpa using q2
        have hT' : RefU base U w r (Rof s) s.f false := by rw [← q2']; exact hT
        by_cases q3 : 1048576 < (s.now ((k : Int)).toNat).length + b.length
        · rw [if_pos q3]
          exact (rappend_full base U r k (Rof s) (s.sure k) _ (s.opn k) (s.now k) s.f A b.length c w hT' hk (rof0 s k) (rof1 s k) rfl (hg.ok k hk) (hg.eq k hk) (hg.sl k hk) (by omega) (hg.nl k hk) hb q3).mono fun e w' ⟨he, hw⟩ => rsame h hi hbw he hw
        · rw [if_neg q3]
          have q3' : (s.now k).length + b.length ≤ 1048576 := by
            have : (s.now ((k : Int)).toNat).length = (s.now k).length := rfl
            omega
          refine (rappend_ok base (fun k => U k ∧ base ≤ k) r k (Rof s) (s.sure k) _ (s.opn k) (s.now k) s.f A c b w (RefU.both hT') hk (rof0 s k) (rof1 s k) rfl (hg.ok k hk) (hg.eq k hk) (hg.sl k hk) hg.f1 hbw q3' (by omega) hC hcap (fun a ha h0 hu => by have := hA a ha h0; have := hu.2; omega)).mono fun e w' hpost => ?_
          obtain ⟨he, C', hT2, hE, hB, hK⟩ := hpost
          have hm : RefU base (fun k => U k ∨ w.heap.size ≤ k) w' r C' (appT b (s.now k) (s.opn k) s.f false).2.2.2.1 (appT b (s.now k) (s.opn k) s.f false).2.2.2.2 := RefU.mono hT2 (fun k hk => hk.elim (fun h => .inl h.1) .inr)
          exact ⟨he, hP w' (rtape r (put_ s k (appT b (s.now k) (s.opn k) s.f false).2)) hK.1 (RefU.congr hm (fun j _ => rput_cof hE j)) (hK.mono (fun k hk => hk.1)), hB⟩
    · rw [if_pos q]
      exact (rappend_bad r t A b.length c w q).mono fun e w' ⟨he, hw⟩ => rsame h hi hbw he (hw ▸ Below.refl _ _)
  refine key.mono fun e w' hp => ?_
  rw [hx] at hp
  exact ⟨hp.1, by rw [← ht]; exact hp.2.1.take m, hp.2.2⟩
theorem rcut_z (base : Nat) (ts ts' : List Thing) (i m r n : Nat) (s s' : TS) (t a k0 : Int) (w : World) (h : Apt base w ts) (hi : ts[i]? = some (rtape r s)) (hg : Fine n s) (hn : n ≤ 10000000) (hbw : base ≤ w.heap.size) (hx : cutS s t a = (k0, s')) (ht : (ts.set i (rtape r s')).take m = ts') :
    Calls Try.prog 33 #[.pointer (some ⟨r, 0, none⟩), .int .i64 t, .int .i64 a] w fun e w' => e = .returned (.int .i64 k0) ∧ Apt base w' ts' ∧ Below base w w' := by
  have key : Calls Try.prog 33 #[.pointer (some ⟨r, 0, none⟩), .int .i64 t, .int .i64 a] w (StepR base ts i r (cutS s t a) w) := by
    obtain ⟨U, hT, hO, hP⟩ := h.op hi
    have hT : RefU base U w r (Rof s) s.f s.d := hT
    unfold cutS
    by_cases q : 0 ≤ t ∧ t < 4
    · rw [if_neg (fun hq => hq q)]
      obtain ⟨k, rfl⟩ := Int.eq_ofNat_of_zero_le q.1
      have hk : k < 4 := by omega
      have hol := hg.ol k hk
      rw [show ((k : Int)).toNat = k from rfl]
      by_cases q1 : a < 0
      · rw [if_pos (.inl q1)]
        exact (rcut_neg r k a w hk q1).mono fun e w' ⟨he, hw⟩ => rsame h hi hbw he (hw ▸ Below.refl _ _)
      by_cases q2 : (s.now k).length < a
      · rw [if_pos (.inr q2)]
        exact (rcut_long base U r k (Rof s) (s.sure k) _ (s.opn k) (s.now k) s.f s.d a w hT hk (rof0 s k) (rof1 s k) rfl (hg.ok k hk) (hg.eq k hk) (hg.sl k hk) (by omega) q2).mono fun e w' ⟨he, hw⟩ => rsame h hi hbw he hw
      rw [if_neg (by omega)]
      obtain ⟨m, rfl⟩ := Int.eq_ofNat_of_zero_le (show 0 ≤ a by omega)
      by_cases q3 : s.d = true
      · rw [if_pos q3]
        exact (rcut_down base U r k (Rof s) (s.sure k) _ (s.opn k) (s.now k) s.f m w (by rw [← q3]; exact hT) hk (rof0 s k) (rof1 s k) rfl (hg.ok k hk) (hg.eq k hk) (hg.sl k hk) (by omega) (by omega)).mono fun e w' ⟨he, hw⟩ => rsame h hi hbw he hw
      · rw [if_neg q3]
        have q3' : s.d = false := by simpa using q3
        refine (rcut_ok base U r k m (Rof s) (s.sure k) _ (s.opn k) (s.now k) s.f w (by rw [← q3']; exact hT) hk (rof0 s k) (rof1 s k) rfl (hg.ok k hk) (hg.eq k hk) (hg.sl k hk) hg.f1 hbw (by omega) (by omega)).mono fun e w' hpost => ?_
        obtain ⟨he, hT2, hB, hK⟩ := hpost
        by_cases q4 : (powT s.f false).1 = true
        · rw [if_pos q4] at he hT2 ⊢
          refine ⟨he, hP w' (rtape r (put_ s k _)) hK.1 (RefU.congr hT2 (fun i _ => rput_cof (x := (List.take m (s.now k), s.opn k ++ [(true, (m : Int))], (powT s.f false).2)) ⟨?_, fun i h1 => ?_⟩ i)) hK, hB⟩
          · rw [upd_same, List.map_append]; rfl
          · rw [upd_ne _ _ h1]
        · rw [if_neg q4] at he hT2 ⊢
          exact ⟨he, hP w' (rtape r { s with f := (powT s.f false).2.1, d := (powT s.f false).2.2 }) hK.1 hT2 hK, hB⟩
    · rw [if_pos q]
      exact (rcut_bad r t a w q).mono fun e w' ⟨he, hw⟩ => rsame h hi hbw he (hw ▸ Below.refl _ _)
  refine key.mono fun e w' hp => ?_
  rw [hx] at hp
  exact ⟨hp.1, by rw [← ht]; exact hp.2.1.take m, hp.2.2⟩
theorem rsync_z (base : Nat) (ts ts' : List Thing) (i m r n : Nat) (s s' : TS) (t k0 : Int) (w : World) (h : Apt base w ts) (hi : ts[i]? = some (rtape r s)) (hg : Fine n s) (hn : n ≤ 10000000) (hbw : base ≤ w.heap.size) (hx : syncS s t = (k0, s')) (ht : (ts.set i (rtape r s')).take m = ts') :
    Calls Try.prog 34 #[.pointer (some ⟨r, 0, none⟩), .int .i64 t] w fun e w' => e = .returned (.int .i64 k0) ∧ Apt base w' ts' ∧ Below base w w' := by
  have key : Calls Try.prog 34 #[.pointer (some ⟨r, 0, none⟩), .int .i64 t] w (StepR base ts i r (syncS s t) w) := by
    obtain ⟨U, hT, hO, hP⟩ := h.op hi
    have hT : RefU base U w r (Rof s) s.f s.d := hT
    unfold syncS
    by_cases q : 0 ≤ t ∧ t < 4
    · rw [if_neg (fun hq => hq q)]
      obtain ⟨k, rfl⟩ := Int.eq_ofNat_of_zero_le q.1
      have hk : k < 4 := by omega
      have hol := hg.ol k hk
      rw [show ((k : Int)).toNat = k from rfl]
      by_cases q3 : s.d = true
      · rw [if_pos q3]
        obtain ⟨S, V, hTI, hU, hS⟩ := hT
        exact (rsync_down r k w hk (by rw [← q3]; exact hTI.down)).mono fun e w' ⟨he, hw⟩ => rsame h hi hbw he (hw ▸ Below.refl _ _)
      · rw [if_neg q3]
        have q3' : s.d = false := by simpa using q3
        refine (rsync_ok base U r k (Rof s) (s.sure k) _ (s.opn k) (s.now k) s.f w (by rw [← q3']; exact hT) hk (rof0 s k) (rof1 s k) rfl (hg.ok k hk) (hg.eq k hk) (hg.sl k hk) hg.f1 hbw (by omega)).mono fun e w' hpost => ?_
        obtain ⟨he, hT2, hB, hK⟩ := hpost
        by_cases q4 : (powT s.f false).1 = true
        · rw [if_pos q4] at he hT2 ⊢
          refine ⟨he, hP w' (rtape r _) hK.1 (RefU.congr hT2 (fun i _ => rof_eq (s := ⟨upd s.sure k (s.now k), s.now, upd s.opn k [], (powT s.f false).2.1, (powT s.f false).2.2⟩) (fun i => ?_) (fun i => ?_) i)) hK, hB⟩
          · rw [upd_ne _ _ (by omega)]
            show _ = RCont.bytes (upd s.sure k (s.now k) i)
            by_cases q : i = k
            · rw [q, upd_same, upd_same]
            · rw [upd_ne _ _ (by omega), upd_ne _ _ q, rof0]
          · show _ = RCont.steps ((upd s.opn k [] i).map cv)
            by_cases q : i = k
            · rw [q, upd_same, upd_same]; rfl
            · rw [upd_ne _ _ (by omega), upd_ne _ _ (by omega), upd_ne _ _ q, rof1]
        · rw [if_neg q4] at he hT2 ⊢
          exact ⟨he, hP w' (rtape r { s with f := (powT s.f false).2.1, d := (powT s.f false).2.2 }) hK.1 hT2 hK, hB⟩
    · rw [if_pos q]
      exact (rsync_bad r t w q).mono fun e w' ⟨he, hw⟩ => rsame h hi hbw he (hw ▸ Below.refl _ _)
  refine key.mono fun e w' hp => ?_
  rw [hx] at hp
  exact ⟨hp.1, by rw [← ht]; exact hp.2.1.take m, hp.2.2⟩
theorem rread_z (base : Nat) (ts : List Thing) (i r n : Nat) (s : TS) (t k0 : Int) (l : List Int) (w : World) (h : Apt base w ts) (hi : ts[i]? = some (rtape r s)) (hg : Fine n s) (hn : n ≤ 10000000) (hbw : base ≤ w.heap.size) (hx : readS s t = (l, k0)) :
    Calls Try.prog 36 #[.pointer (some ⟨r, 0, none⟩), .int .i64 t] w fun e w' => ∃ A c, e = .returned (.tuple #[.slice A l.length c, .int .i64 k0]) ∧ Apt base w' (ts ++ [row (.slice A l.length c) l]) ∧ Below w.heap.size w w' := by
  obtain ⟨U, hT⟩ := h.get hi
  have hT : RefU base U w r (Rof s) s.f s.d := hT
  have nilc : ∀ x : Int, ([], x) = (l, k0) → ∀ (e : Ending) (w' : World), e = .returned (.tuple #[.slice none 0 0, .int .i64 x]) ∧ w = w' → ∃ A c, e = .returned (.tuple #[.slice A l.length c, .int .i64 k0]) ∧ Apt base w' (ts ++ [row (.slice A l.length c) l]) ∧ Below w.heap.size w w' := by
    rintro x hxx e w' ⟨he, rfl⟩
    obtain ⟨rfl, rfl⟩ := Prod.mk.inj hxx
    exact ⟨none, 0, he, h.add (Below.refl _ _) (t := row (.slice none 0 0) []) (Kd.R_nil _ _ _ _ _), Below.refl _ _⟩
  unfold readS at hx
  by_cases q : 0 ≤ t ∧ t < 4
  · rw [if_neg (fun hq => hq q)] at hx
    obtain ⟨k, rfl⟩ := Int.eq_ofNat_of_zero_le q.1
    have hk : k < 4 := by omega
    have hol := hg.ol k hk
    rw [show ((k : Int)).toNat = k from rfl] at hx
    by_cases q2 : s.d = true
    · rw [if_pos q2] at hx
      obtain ⟨S, V, hTI, hU, hS⟩ := hT
      exact (rread_down r k w hk (by rw [← q2]; exact hTI.down)).mono (nilc 100 hx)
    · rw [if_neg q2] at hx
      have q2' : s.d = false := by simpa using q2
      obtain ⟨rfl, rfl⟩ := Prod.mk.inj hx
      refine (rread_ok base U r k (Rof s) (s.sure k) _ (s.opn k) (s.now k) s.f w (by rw [← q2']; exact hT) hk (rof0 s k) (rof1 s k) rfl (hg.ok k hk) (hg.eq k hk) (hg.sl k hk) (by omega)).mono fun e w' hpost => ?_
      obtain ⟨A, c, he, hR, hB⟩ := hpost
      exact ⟨A, c, he, h.add hB (t := row _ (s.now k)) (Kd.R_lower (Kd.R_mono (Kd.R_bound hR) (fun k hk => hk.2.1)) hbw), hB⟩
  · rw [if_pos q] at hx
    exact (rread_bad r t w q).mono (nilc 1 hx)
theorem ropen_z (base : Nat) (ts : List Thing) (i r : Nat) (s : TS) (t k0 : Int) (w : World) (h : Apt base w ts) (hi : ts[i]? = some (rtape r s)) (hx : openS s t = k0) :
    Calls Try.prog 37 #[.pointer (some ⟨r, 0, none⟩), .int .i64 t] w fun e w' => e = .returned (.int .i64 k0) ∧ w = w' := by
  subst hx
  obtain ⟨U, hT⟩ := h.get hi
  have hT : RefU base U w r (Rof s) s.f s.d := hT
  unfold openS
  by_cases q : 0 ≤ t ∧ t < 4
  · rw [if_neg (fun hq => hq q)]
    obtain ⟨j, rfl⟩ := Int.eq_ofNat_of_zero_le q.1
    have := ropen_ok base U r j (Rof s) _ s.f s.d w hT (by omega) (rof1 s j)
    rw [List.length_map] at this
    exact this
  · rw [if_pos q]
    exact ropen_bad r t w q
theorem rfuse_y (base : Nat) (ts : List Thing) (i r : Nat) (s : TS) (n : Int) (w : World) (h : Apt base w ts) (hi : ts[i]? = some (rtape r s)) (hbw : base ≤ w.heap.size) :
    Calls Try.prog 35 #[.pointer (some ⟨r, 0, none⟩), .int .i64 n] w fun e w' => e = .returned (.tuple #[]) ∧ Apt base w' (ts.set i (rtape r { s with f := fuseOf n })) ∧ Below base w w' := by
  obtain ⟨U, hT, hO, hP⟩ := h.op hi
  have hT : RefU base U w r (Rof s) s.f s.d := hT
  refine (rfuse_ok base U r (Rof s) s.f s.d n w hT hbw).mono fun e w' hpost => ?_
  obtain ⟨he, hT', hB, hK⟩ := hpost
  have hm : RefU base (fun k => U k ∨ w.heap.size ≤ k) w' r (Rof s) (fuseOf n) s.d := RefU.mono hT' (fun k hk => .inl hk)
  exact ⟨he, hP w' (rtape r { s with f := fuseOf n }) hK.1 hm hK, hB⟩
theorem rcrash_z (base : Nat) (ts : List Thing) (i r n nk : Nat) (s s' : TS) (A : Option Addr) (c : Nat) (ks : List Int) (w : World) (h : Apt base w ts) (hi : ts[i]? = some (rtape r s)) (hg : Fine n s) (hn : n ≤ 10000000) (hnk : nk = ks.length) (hC : Kd.C (Kd.int .i64) w A ks.length ks) (hcap : ks.length ≤ c) (hk : ks.length ≤ 1000000) (hbw : base ≤ w.heap.size) (hx : crashS s ks = s') :
    Calls Try.prog 24 #[.pointer (some ⟨r, 0, none⟩), .slice A nk c] w fun e w' => ∃ r2, e = .returned (.pointer (some ⟨r2, 0, none⟩)) ∧ Apt base w' (ts ++ [rtape r2 s']) ∧ Below w.heap.size w w' := by
  subst hx; subst hnk
  obtain ⟨U, hT⟩ := h.get hi
  have hT : RefU base U w r (Rof s) s.f s.d := hT
  refine (rcrash_ok base U r (Rof s) s.sure (fun i => (s.opn i).map cv) s.opn s.f s.d A c ks w hT (fun i _ => rof0 s i) (fun i _ => rof1 s i) (fun _ _ => rfl) hg.sl (fun i hi => Nat.le_trans (hg.ol i hi) hn) hg.ok hC hcap hk).mono fun e w' hpost => ?_
  obtain ⟨r2, he, hT', hB⟩ := hpost
  refine ⟨r2, he, h.add hB (t := rtape r2 (crashS s ks)) (RefU.congr (RefU.lower hT' hbw) (fun j _ => ?_)), hB⟩
  refine rof_eq (s := crashS s ks) (fun i => ?_) (fun i => ?_) j
  · unfold rcrashC
    rw [if_neg (by omega), show i * 2 / 2 = i by omega]; rfl
  · unfold rcrashC
    rw [if_pos (by omega)]; rfl
theorem gone_at {base : Nat} {ts : List Thing} {i r : Nat} {s : TS} {w : World} (h : Apt base w ts) (hi : ts[i]? = some (rtape r s)) : w.cell? ⟨r, 9, none⟩ = some (.bool s.d) := by
  obtain ⟨U, hT⟩ := h.get hi
  obtain ⟨S, V, hTI, hU, hS⟩ := (show RefU base U w r (Rof s) s.f s.d from hT)
  exact hTI.down
end Go.Proofs.Ytbccjamcfodeiaa.RTape5
