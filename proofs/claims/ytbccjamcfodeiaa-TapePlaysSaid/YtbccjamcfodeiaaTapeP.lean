/- PROVED: calls on a tape's state. No condition beyond what each line says. -/
import Derived.Test.YtbccjamcfodeiaaTapeF
import Derived.Test.YtbccjamcfodeiaaLRead
import Derived.Test.YtbccjamcfodeiaaWApart
import Derived.Test.YtbccjamcfodeiaaWKept
import Derived.WalkKit
import Derived.WalkSpells
import Derived.WalkLawsBesides
import Derived.WalkMore
import Derived.Outline
import Derived.Lib.Hide
import Derived.BigQuiet
import Derived.Deep.QuietTactic
import Derived.Deep.RegionHeld3
import Derived.Deep.RegionLaw
import Derived.Deep.LoopGhost
import Derived.Deep.DeepCutAuto
namespace Go.Proofs.Ytbccjamcfodeiaa.TapeP
open Go.RowKit Go.Proofs.Ytbccjamcfodeiaa.PTapePlays Go.Proofs.YtbccjamcfodeiaaW.PrintWords Go.Proofs.YtbccjamcfodeiaaW.PrintLast Go.Proofs.YtbccjamcfodeiaaW.PrintMore
open Go.Proofs.Ytbccjamcfodeiaa.Tape Go.Proofs.Ytbccjamcfodeiaa.Tape2 Go.Proofs.Ytbccjamcfodeiaa.Tape3 Go.Proofs.Ytbccjamcfodeiaa.Tape4 Go.Proofs.Ytbccjamcfodeiaa.Tape5 Go.Proofs.Ytbccjamcfodeiaa.Tape6 Go.Proofs.Ytbccjamcfodeiaa.Tape7 Go.Proofs.Ytbccjamcfodeiaa.Tape8 Go.Proofs.Ytbccjamcfodeiaa.Tape9
open Go.Proofs.Ytbccjamcfodeiaa.TapeW Go.Proofs.Ytbccjamcfodeiaa.TapeF
set_option linter.unusedSimpArgs false
set_option linter.unusedVariables false
theorem TapeU.fresh {base : Nat} {U : Nat → Prop} {w : World} {r : Nat} {C : Nat → Cont} {f : Int} {d : Bool} (h : TapeU base U w r C f d) : TapeU base (fun k => base ≤ k) w r C f d := by
  obtain ⟨S, V, h1, h2, h3⟩ := h
  exact ⟨S, V, h1, h1.2.1, fun j k hk => (h1.2.2.2.2 j k hk).1⟩
/-- A block, and what lies in it. -/
def blk (g : Nat) (cs : Array Value) (t : Nat) : Thing where
  H := fun w _ ok => ok g ∧ w.heap[g]? = some (.cells cs t (0, 0))
  mono := fun h hb => ⟨h g hb.1, hb.2⟩
  bound := fun h => ⟨⟨h.1, blk_lt h.2⟩, h.2⟩
  lower := fun _ h => h
  step := fun h _ hm => ⟨h.1, (hm g h.1 (blk_lt h.2)).trans h.2⟩
theorem blk_at {base : Nat} {ts : List Thing} {w : World} {i g t : Nat} {cs : Array Value} (h : Apt base w ts) (hi : ts[i]? = some (blk g cs t)) : w.heap[g]? = some (.cells cs t (0, 0)) := by
  obtain ⟨U, hR⟩ := h.get hi
  exact hR.2
theorem own_z (base : Nat) (ts : List Thing) (A : Option Addr) (c : Nat) (b : List Int) (w : World) (h : Apt base w ts) (hC : Kd.C (Kd.int .u8) w A b.length b) (hcap : b.length ≤ c) (hb : b.length ≤ 1000000000) (hbw : base ≤ w.heap.size) :
    Calls Try.prog 18 #[.slice A b.length c] w fun e w' => ∃ Ao co, e = .returned (.slice Ao b.length co) ∧ Apt base w' (ts ++ [row (.slice Ao b.length co) b]) ∧ Below w.heap.size w w' := by
  refine (own_y base ts A c b w h hC hcap hb hbw).mono fun e w' hp => ?_
  obtain ⟨v, h1, h2, h3⟩ := hp
  obtain ⟨Ao, co, rfl, _, _⟩ := row_at h2 (i := ts.length) (v := v) (l := b) (by rw [List.getElem?_append_right (Nat.le_refl _)]; simp)
  exact ⟨Ao, co, h1, h2, h3⟩
theorem info3 : (Try.prog.info? 3).map (fun i => (i.zero, i.size, i.bytes)) = some (some (.int .i64 0), 1, 8) := by kernel_rfl
theorem text_in {w : World} {A : Option Addr} {l : List (List Int)} (h : Kd.C (Kd.slice 5 (Kd.int .u8)) w A l.length l) {k : Nat} {t : List Int} (hx : l[k]? = some t) : ∃ b off A3 c3, A = some ⟨b, off, none⟩ ∧ w.cell? ⟨b, off + k, none⟩ = some (.slice A3 t.length c3) ∧ t.length ≤ c3 ∧ Kd.C (Kd.int .u8) w A3 t.length t := by
  have hk : k < l.length := (List.getElem?_eq_some_iff.1 hx).1
  obtain ⟨b, off, rfl, hb, hel⟩ := LRead.C_addr h (by decide) (by omega)
  obtain ⟨c, hc, hK, hcell⟩ := hel k t hx
  obtain ⟨A3, c3, rfl, l3, g3⟩ := hK
  refine ⟨b, off, A3, c3, rfl, ?_, l3, g3⟩
  have := hcell 0 _ rfl
  rw [show off + k * (Kd.slice 5 (Kd.int .u8)).sz + 0 = off + k from by show off + k * 1 + 0 = off + k; omega] at this
  exact this
/-- A call is of sound numbers. -/
def okC (x : S45) : Prop := (Lit.int .i64 x.f0).wf = true ∧ (Lit.int .i64 x.f1).wf = true ∧ (Lit.int .i64 x.f2).wf = true ∧ (∀ y ∈ x.f3, (Lit.int .u8 y).wf = true) ∧ (∀ y ∈ x.f4, (Lit.int .i64 y).wf = true)
theorem okC_by {x : S45} (h : okC x) : ∀ y ∈ x.f3, 0 ≤ y ∧ y < 256 := by
  intro y hy
  have := h.2.2.2.1 y hy
  simp [Lit.wf, IntKind.min, IntKind.max, IntKind.signed, IntKind.bits] at this
  omega
theorem okC_n {x : S45} (h : okC x) : -9223372036854775808 ≤ x.f2 ∧ x.f2 ≤ 9223372036854775807 := by
  have := h.2.2.1
  simp [Lit.wf, IntKind.min, IntKind.max, IntKind.signed, IntKind.bits] at this
  omega
/-- Calls are few and short. -/
def Short (l : List S45) : Prop := l.length ≤ 60 ∧ ∀ x ∈ l, x.f3.length ≤ 500 ∧ x.f4.length ≤ 10
theorem long_l (l : List S45) (hl : l.length ≤ 60) : ∀ (k i : Nat), i ≤ l.length → l.length - i < k → ∃ b, juratlaw10_Long.l0 k l i = some b ∧ (b = false → ∀ j, i ≤ j → j < l.length → (l.getD j z45).f3.length ≤ 500 ∧ (l.getD j z45).f4.length ≤ 10)
  | 0, i, _, hk => by omega
  | k + 1, i, hi, hk => by
    unfold juratlaw10_Long.l0
    by_cases q : i < l.length
    · rw [if_pos (by omega), if_pos (by omega)]
      have e : rd_T45 l (i : Int) = l.getD i z45 := rfl
      rw [e]
      by_cases q1 : 500 < (l.getD i z45).f3.length
      · rw [if_pos (by omega)]
        exact ⟨true, rfl, fun h => by cases h⟩
      · rw [if_neg (by omega)]
        by_cases q2 : 10 < (l.getD i z45).f4.length
        · rw [if_pos (by omega)]
          exact ⟨true, rfl, fun h => by cases h⟩
        · rw [if_neg (by omega), show wrap64 ((i : Int) + 1) = ((i + 1 : Nat) : Int) by unfold wrap64; omega]
          obtain ⟨b, hb, hB⟩ := long_l l hl k (i + 1) (by omega) (by omega)
          refine ⟨b, hb, fun h j hj hjl => ?_⟩
          by_cases q3 : j = i
          · rw [q3]; omega
          · exact hB h j (by omega) hjl
    · rw [if_neg (by omega)]
      exact ⟨false, rfl, fun _ j hj hjl => by omega⟩
theorem long_f (l : List S45) : ∃ b, juratlaw10_Long.f 62 l = some b ∧ (b = false → Short l) := by
  unfold juratlaw10_Long.f
  by_cases q : 60 < l.length
  · rw [if_pos (by omega)]
    exact ⟨true, rfl, fun h => by cases h⟩
  · rw [if_neg (by omega)]
    obtain ⟨b, hb, hB⟩ := long_l l (by omega) 62 0 (by omega) (by omega)
    refine ⟨b, hb, fun h => ⟨by omega, fun x hx => ?_⟩⟩
    obtain ⟨j, hj, rfl⟩ := List.getElem_of_mem hx
    have := hB h j (Nat.zero_le _) hj
    rwa [List.getD, List.getElem?_eq_getElem hj] at this
theorem long_t (l : List S45) (b : Bool) (A : Option Addr) (c : Nat) (w : World) (hb : juratlaw10_Long.f 62 l = some b) (h : Kd.C k45 w A l.length l) (hc : l.length ≤ c) : Calls Try.prog 15 #[.slice A l.length c] w fun e w' => e = .returned (.bool b) ∧ Below w.heap.size w w' :=
  (juratlaw10_Long.calls 62 A c l b w h hc hb).mono fun e w' ⟨he, hd⟩ => ⟨he, hd.below⟩
theorem call_in {w : World} {A : Option Addr} {l : List S45} (h : Kd.C k45 w A l.length l) {k : Nat} {x : S45} (hx : l[k]? = some x) : ∃ b off A3 c3 A4 c4, A = some ⟨b, off, none⟩ ∧ w.cell? ⟨b, off + k * 5, none⟩ = some (.int .i64 x.f0) ∧ w.cell? ⟨b, off + k * 5 + 1, none⟩ = some (.int .i64 x.f1) ∧ w.cell? ⟨b, off + k * 5 + 2, none⟩ = some (.int .i64 x.f2) ∧ w.cell? ⟨b, off + k * 5 + 3, none⟩ = some (.slice A3 x.f3.length c3) ∧ w.cell? ⟨b, off + k * 5 + 4, none⟩ = some (.slice A4 x.f4.length c4) ∧ x.f3.length ≤ c3 ∧ Kd.C (Kd.int .u8) w A3 x.f3.length x.f3 ∧ x.f4.length ≤ c4 ∧ Kd.C (Kd.int .i64) w A4 x.f4.length x.f4 := by
  have hk : k < l.length := (List.getElem?_eq_some_iff.1 hx).1
  obtain ⟨b, off, rfl, hb, hel⟩ := LRead.C_addr h (by decide) (by omega)
  obtain ⟨c, hc, hK, hcell⟩ := hel k x hx
  obtain ⟨A3, c3, A4, c4, rfl, l3, g3, l4, g4⟩ := k45_open hK
  exact ⟨b, off, A3, c3, A4, c4, rfl, hcell 0 _ rfl, hcell 1 _ rfl, hcell 2 _ rfl, hcell 3 _ rfl, hcell 4 _ rfl, l3, g3, l4, g4⟩
/-- A call, and calls, on a state. -/
def stepS (s : TS) (c : S45) : TS := if c.f0 = 0 then (appS s c.f1 c.f3).2 else if c.f0 = 1 then (cutS s c.f1 c.f2).2 else if c.f0 = 2 then (syncS s c.f1).2 else s
def playS (l : List S45) (s : TS) : TS := l.foldl stepS s
theorem stepS_fine {n : Nat} {s : TS} (h : Fine n s) (c : S45) (hc : okC c) (h5 : c.f3.length ≤ 500) : Fine (n + 501) (stepS s c) := by
  unfold stepS
  split
  · exact (appS_good h c.f1 c.f3 (okC_by hc)).mono (by omega)
  · split
    · exact (cutS_good h c.f1 c.f2).mono (by omega)
    · split
      · exact (syncS_good h c.f1).mono (by omega)
      · exact h.mono (by omega)
/-- The power never goes. -/
def Ever (s : TS) : Prop := s.f = -1 ∧ s.d = false
theorem ever_app {s : TS} (h : Ever s) (i : Int) (b : List Int) : Ever (appS s i b).2 := by
  unfold appS
  split
  · exact h
  · split
    · exact h
    · split
      · exact h
      · rw [h.1, appT_free]; exact ⟨rfl, rfl⟩
theorem powT_ever {s : TS} (h : Ever s) : powT s.f false = (true, -1, false) := by rw [h.1]; rfl
theorem ever_cut {s : TS} (h : Ever s) (i n : Int) : Ever (cutS s i n).2 := by
  unfold cutS
  rw [powT_ever h]
  split
  · exact h
  · split
    · exact h
    · split
      · exact h
      · exact ⟨rfl, rfl⟩
theorem ever_sync {s : TS} (h : Ever s) (i : Int) : Ever (syncS s i).2 := by
  unfold syncS
  rw [powT_ever h]
  split
  · exact h
  · split
    · exact h
    · exact ⟨rfl, rfl⟩
theorem ever_step {s : TS} (h : Ever s) (c : S45) : Ever (stepS s c) := by
  unfold stepS
  split
  · exact ever_app h _ _
  · split
    · exact ever_cut h _ _
    · split
      · exact ever_sync h _
      · exact h
theorem ever_play : ∀ (l : List S45) {s : TS}, Ever s → Ever (playS l s)
  | [], _, h => h
  | c :: l, _, h => ever_play l (ever_step h c)
theorem ever_new : Ever newS := ⟨rfl, rfl⟩
theorem ever_crash (s : TS) (ks : List Int) : Ever (crashS s ks) := ⟨rfl, rfl⟩
theorem play_fine : ∀ (l : List S45) {n : Nat} {s : TS}, Fine n s → (∀ x ∈ l, okC x) → (∀ x ∈ l, x.f3.length ≤ 500 ∧ x.f4.length ≤ 10) → Fine (n + 501 * l.length) (playS l s)
  | [], n, s, h, _, _ => h.mono (by omega)
  | c :: l, n, s, h, ho, h5 => by
    have := play_fine l (stepS_fine h c (ho c (by simp)) (h5 c (by simp)).1) (fun x hx => ho x (by simp [hx])) (fun x hx => h5 x (by simp [hx]))
    exact this.mono (by simp only [List.length_cons]; omega)
theorem app_cases {s : TS} (h : Ever s) (i : Int) (b : List Int) (hi : 0 ≤ i) (h4 : i < 4) : ((appS s i b).1 = 0 ∨ (appS s i b).1 = 90) := by
  unfold appS
  rw [if_neg (fun hq => hq ⟨hi, h4⟩), if_neg (by simp [h.2])]
  split
  · exact .inr rfl
  · rw [h.1, appT_free]; exact .inl rfl
end Go.Proofs.Ytbccjamcfodeiaa.TapeP
