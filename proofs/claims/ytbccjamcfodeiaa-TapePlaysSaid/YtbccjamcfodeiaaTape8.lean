/- PROVED: a tape's state; things that lie apart in memory. No condition beyond what each line says. -/
import Derived.Test.YtbccjamcfodeiaaTape7
import Derived.Test.YtbccjamcfodeiaaLRead
import Derived.Test.YtbccjamcfodeiaaWApart
import Derived.Test.YtbccjamcfodeiaaWKept
import Derived.WalkKit
import Derived.WalkSpells
import Derived.WalkLawsBesides
import Derived.WalkMore
import Derived.Outline
import Derived.Lib.Hide
import Derived.BigQuiet
import Derived.Deep.QuietTactic
import Derived.Deep.RegionHeld3
import Derived.Deep.RegionLaw
import Derived.Deep.LoopGhost
import Derived.Deep.DeepCutAuto
namespace Go.Proofs.Ytbccjamcfodeiaa.Tape8
open Go.RowKit Go.Proofs.Ytbccjamcfodeiaa.PTapePlays Go.Proofs.YtbccjamcfodeiaaW.PrintWords Go.Proofs.YtbccjamcfodeiaaW.PrintLast Go.Proofs.YtbccjamcfodeiaaW.PrintMore
open Go.Proofs.Ytbccjamcfodeiaa.Tape Go.Proofs.Ytbccjamcfodeiaa.Tape2 Go.Proofs.Ytbccjamcfodeiaa.Tape3 Go.Proofs.Ytbccjamcfodeiaa.Tape4 Go.Proofs.Ytbccjamcfodeiaa.Tape5 Go.Proofs.Ytbccjamcfodeiaa.Tape6 Go.Proofs.Ytbccjamcfodeiaa.Tape7
set_option linter.unusedSimpArgs false
set_option linter.unusedVariables false
/-- Something in memory: what it says of a world, over blocks of its own. -/
structure Thing where
  H : World → Nat → (Nat → Prop) → Prop
  mono : ∀ {w base ok ok'}, (∀ k, ok k → ok' k) → H w base ok → H w base ok'
  bound : ∀ {w : World} {base ok}, H w base ok → H w base (fun k => ok k ∧ k < w.heap.size)
  lower : ∀ {w base base' ok}, base' ≤ base → H w base ok → H w base' ok
  step : ∀ {w w1 : World} {base ok}, H w base ok → w.heap.size ≤ w1.heap.size → (∀ k, ok k → k < w.heap.size → w1.heap[k]? = w.heap[k]?) → H w1 base ok
/-- Things that lie apart. -/
def Apt (base : Nat) (w : World) (ts : List Thing) : Prop := ∃ O : Nat → Nat → Prop, (∀ i j k, O i k → O j k → i = j) ∧ (∀ i k, O i k → k < w.heap.size) ∧ ∀ (i : Nat) (t : Thing), ts[i]? = some t → t.H w base (O i)
section
variable {base : Nat} {w w1 : World} {ts : List Thing} {t : Thing}
theorem Apt.none_ (base : Nat) (w : World) : Apt base w [] := ⟨fun _ _ => False, fun _ _ _ h => h.elim, fun _ _ h => h.elim, fun i t h => by simp at h⟩
theorem Apt.below (h : Apt base w ts) (hb : Below w.heap.size w w1) : Apt base w1 ts := by
  obtain ⟨O, h1, h2, h3⟩ := h
  exact ⟨O, h1, fun i k hk => Nat.lt_of_lt_of_le (h2 i k hk) hb.size, fun i t ht => t.step (h3 i t ht) hb.size (fun k _ hk => hb.block k hk)⟩
theorem Apt.add (h : Apt base w ts) (hb : Below w.heap.size w w1) (ht : t.H w1 base (fun k => w.heap.size ≤ k)) : Apt base w1 (ts ++ [t]) := by
  obtain ⟨O, h1, h2, h3⟩ := h
  refine ⟨fun i k => if i < ts.length then O i k else i = ts.length ∧ w.heap.size ≤ k ∧ k < w1.heap.size, fun i j k hi hj => ?_, fun i k hk => ?_, fun i t' ht' => ?_⟩
  · dsimp only at hi hj
    split at hi <;> split at hj
    · exact h1 i j k hi hj
    · have := h2 i k hi; omega
    · have := h2 j k hj; omega
    · omega
  · dsimp only at hk
    split at hk
    · exact Nat.lt_of_lt_of_le (h2 i k hk) hb.size
    · exact hk.2.2
  · by_cases q : i < ts.length
    · rw [List.getElem?_append_left q] at ht'
      simp only [if_pos q]
      exact t'.step (h3 i t' ht') hb.size (fun k _ hk => hb.block k hk)
    · rw [List.getElem?_append_right (by omega)] at ht'
      have hi : i = ts.length := by
        by_cases q2 : i - ts.length = 0
        · omega
        · rw [List.getElem?_eq_none (by simp; omega)] at ht'
          cases ht'
      subst hi
      simp only [Nat.sub_self, List.getElem?_cons_zero, Option.some.injEq] at ht'
      subst ht'
      simp only [Nat.lt_irrefl, if_false, true_and]
      exact t.mono (fun k hk => hk) (t.bound ht)
theorem Apt.lower {base' : Nat} (h : Apt base w ts) (hb : base' ≤ base) : Apt base' w ts := by
  obtain ⟨O, h1, h2, h3⟩ := h
  exact ⟨O, h1, h2, fun i t ht => t.lower hb (h3 i t ht)⟩
theorem Apt.take (h : Apt base w ts) (n : Nat) : Apt base w (ts.take n) := by
  obtain ⟨O, h1, h2, h3⟩ := h
  refine ⟨O, h1, h2, fun i t ht => h3 i t ?_⟩
  rw [List.getElem?_take] at ht
  split at ht
  · exact ht
  · cases ht
theorem Apt.get (h : Apt base w ts) {i : Nat} (ht : ts[i]? = some t) : ∃ U, t.H w base U := by
  obtain ⟨O, h1, h2, h3⟩ := h
  exact ⟨_, h3 i t ht⟩
/-- One of the things is opened; what becomes of it is put back. -/
theorem Apt.op (h : Apt base w ts) {i : Nat} (ht : ts[i]? = some t) : ∃ U, t.H w base U ∧ (∀ j t', j ≠ i → ts[j]? = some t' → t'.H w base (fun k => ¬ U k)) ∧
    ∀ (w1 : World) (t1 : Thing), w.heap.size ≤ w1.heap.size → t1.H w1 base (fun k => U k ∨ w.heap.size ≤ k) → Kept w w1 U → Apt base w1 (ts.set i t1) := by
  obtain ⟨O, h1, h2, h3⟩ := h
  refine ⟨O i, h3 i t ht, fun j t' hj ht' => t'.mono (fun k hk hk' => hj (h1 j i k hk hk')) (h3 j t' ht'), fun w1 t1 hs hH hK => ?_⟩
  refine ⟨fun j k => if j = i then (O i k ∨ w.heap.size ≤ k) ∧ k < w1.heap.size else O j k, fun a b k ha hb => ?_, fun j k hk => ?_, fun j t' ht' => ?_⟩
  · dsimp only at ha hb
    split at ha <;> split at hb
    · omega
    · rename_i q1 q2
      rcases ha.1 with ha | ha
      · rw [q1]; exact h1 i b k ha hb
      · have := h2 b k hb; omega
    · rename_i q1 q2
      rcases hb.1 with hb | hb
      · rw [q2]; exact h1 a i k ha hb
      · have := h2 a k ha; omega
    · exact h1 a b k ha hb
  · dsimp only at hk
    split at hk
    · exact hk.2
    · exact Nat.lt_of_lt_of_le (h2 j k hk) hs
  · by_cases q : j = i
    · subst q
      have hl : j < ts.length := (List.getElem?_eq_some_iff.1 ht).1
      rw [List.getElem?_set_self hl] at ht'
      injection ht' with ht'
      subst ht'
      simp only [if_true]
      exact t1.bound hH
    · rw [List.getElem?_set_ne (Ne.symm q)] at ht'
      simp only [if_neg q]
      exact t'.step (h3 j t' ht') hs (fun k hk hl => hK.2 k hl (fun hu => q (h1 j i k hk hu)))
end
/-- A tape's state. -/
structure TS where
  sure : Nat → List Int
  now : Nat → List Int
  opn : Nat → List (Bool × Int)
  f : Int
  d : Bool
/-- What its slots lead to. -/
def Cof (s : TS) : Nat → Cont := fun j => if j % 3 = 0 then .bytes (s.sure (j / 3)) else if j % 3 = 1 then .bytes (s.now (j / 3)) else .steps (s.opn (j / 3))
theorem cof0 (s : TS) (i : Nat) : Cof s (i * 3) = .bytes (s.sure i) := by
  unfold Cof
  rw [if_pos (by omega), show i * 3 / 3 = i by omega]
theorem cof1 (s : TS) (i : Nat) : Cof s (i * 3 + 1) = .bytes (s.now i) := by
  unfold Cof
  rw [if_neg (by omega), if_pos (by omega), show (i * 3 + 1) / 3 = i by omega]
theorem cof2 (s : TS) (i : Nat) : Cof s (i * 3 + 2) = .steps (s.opn i) := by
  unfold Cof
  rw [if_neg (by omega), if_neg (by omega), show (i * 3 + 2) / 3 = i by omega]
theorem cof_eq {s : TS} {C : Nat → Cont} (h0 : ∀ i, C (i * 3) = .bytes (s.sure i)) (h1 : ∀ i, C (i * 3 + 1) = .bytes (s.now i)) (h2 : ∀ i, C (i * 3 + 2) = .steps (s.opn i)) : ∀ j, Cof s j = C j := by
  intro j
  have hj : j = j / 3 * 3 + j % 3 := by omega
  have h3 : j % 3 = 0 ∨ j % 3 = 1 ∨ j % 3 = 2 := by omega
  rcases h3 with h | h | h
  · rw [hj, h, Nat.add_zero, h0, cof0]
  · rw [hj, h, h1, cof1]
  · rw [hj, h, h2, cof2]
theorem TapeU.bound {base : Nat} {U : Nat → Prop} {w : World} {r : Nat} {C : Nat → Cont} {f : Int} {d : Bool} (h : TapeU base U w r C f d) : TapeU base (fun k => U k ∧ k < w.heap.size) w r C f d := by
  obtain ⟨S, V, h1, h2, h3⟩ := h
  exact ⟨S, V, h1, ⟨h2, h1.lt⟩, fun j k hk => ⟨h3 j k hk, (h1.2.2.2.2 j k hk).2.1⟩⟩
theorem TapeU.step {base : Nat} {U : Nat → Prop} {w w1 : World} {r : Nat} {C : Nat → Cont} {f : Int} {d : Bool} (h : TapeU base U w r C f d) (hs : w.heap.size ≤ w1.heap.size) (hm : ∀ k, U k → k < w.heap.size → w1.heap[k]? = w.heap[k]?) : TapeU base U w1 r C f d := by
  obtain ⟨S, V, h1, h2, h3⟩ := h
  exact ⟨S, V, h1.kept (K := fun k => ¬ U k) ⟨hs, fun i hi hn => hm i (Classical.not_not.1 hn) hi⟩ (fun h => h h2) (fun j k hk h => h (h3 j k hk)), h2, h3⟩
theorem TapeU.lower {base base' : Nat} {U : Nat → Prop} {w : World} {r : Nat} {C : Nat → Cont} {f : Int} {d : Bool} (h : TapeU base U w r C f d) (hb : base' ≤ base) : TapeU base' U w r C f d := by
  obtain ⟨S, V, ⟨h1, h2, h3, h4, h5⟩, hU, hS⟩ := h
  refine ⟨S, V, ⟨h1, Nat.le_trans hb h2, fun j hj => ?_, h4, fun j k hk => ⟨Nat.le_trans hb (h5 j k hk).1, (h5 j k hk).2⟩⟩, hU, hS⟩
  have := h3 j hj
  revert this
  cases C j with
  | bytes l =>
    intro h
    rcases h with h | ⟨A, a1, a2, a3⟩
    · exact .inl (Kd.R_lower h hb)
    · exact .inr ⟨A, a1, fun k hk => ⟨(a2 k hk).1, Nat.le_trans hb (a2 k hk).2.1, (a2 k hk).2.2⟩, a3⟩
  | steps l => exact fun h => Kd.R_lower h hb
/-- A tape in a state. -/
def tape (r : Nat) (s : TS) : Thing where
  H := fun w base ok => TapeU base ok w r (Cof s) s.f s.d
  mono := fun h ht => TapeU.mono ht h
  bound := fun h => TapeU.bound h
  lower := fun hb h => TapeU.lower h hb
  step := fun h hs hm => TapeU.step h hs hm
/-- Bytes in a row of their own. -/
def row (v : Value) (l : List Int) : Thing where
  H := fun w base ok => Kd.R (Kd.int .u8) 5 w base ok v l
  mono := fun h hr => Kd.R_mono hr h
  bound := fun h => Kd.R_mono (Kd.R_bound h) (fun k hk => ⟨hk.1, hk.2.2.1⟩)
  lower := fun hb h => Kd.R_lower h hb
  step := fun h _ hm => Kd.R_step h hm
theorem crashB_app : ∀ (l m : List (Bool × Int)) (b : List Int), crashB (l ++ m) b = crashB m (crashB l b)
  | [], _, _ => rfl
  | (true, n) :: s, m, b => crashB_app s m _
  | (false, c) :: s, m, b => crashB_app s m _
theorem okS_app : ∀ (l m : List (Bool × Int)) (b : List Int), okS l b.length → okS m (crashB l b).length → okS (l ++ m) b.length
  | [], _, _, _, h => h
  | (true, n) :: s, m, b, h, h2 => by
    have hl : (b.take n.toNat).length = n.toNat := by rw [List.length_take]; have := h.1; have := h.2.1; omega
    exact ⟨h.1, h.2.1, by have := okS_app s m (b.take n.toNat) (by rw [hl]; exact h.2.2) h2; rwa [hl] at this⟩
  | (false, c) :: s, m, b, h, h2 => by
    have hl : (b ++ [c]).length = b.length + 1 := by simp
    exact ⟨h.1, h.2.1, by have := okS_app s m (b ++ [c]) (by rw [hl]; exact h.2.2) h2; rwa [hl] at this⟩
/-- A tape's state is sound, with at most n steps open in a file. -/
structure Fine (n : Nat) (s : TS) : Prop where
  f0 : -1 ≤ s.f
  f1 : s.f ≤ 9223372036854775807
  sl : ∀ i, i < 4 → (s.sure i).length ≤ 1048576
  nl : ∀ i, i < 4 → (s.now i).length ≤ 1048576
  ol : ∀ i, i < 4 → (s.opn i).length ≤ n
  ok : ∀ i, i < 4 → okS (s.opn i) (s.sure i).length
  eq : ∀ i, i < 4 → crashB (s.opn i) (s.sure i) = s.now i
  pl : ∀ i, i < 4 → ∀ m, (crashB ((s.opn i).take m) (s.sure i)).length ≤ 1048576
theorem Fine.mono {n m : Nat} {s : TS} (h : Fine n s) (hm : n ≤ m) : Fine m s := ⟨h.f0, h.f1, h.sl, h.nl, fun i hi => Nat.le_trans (h.ol i hi) hm, h.ok, h.eq, h.pl⟩
def newS : TS := ⟨fun _ => [], fun _ => [], fun _ => [], -1, false⟩
theorem newS_good : Fine 0 newS := ⟨by decide, by decide, fun _ _ => by simp [newS], fun _ _ => by simp [newS], fun _ _ => by simp [newS], fun _ _ => trivial, fun _ _ => rfl, fun _ _ _ => by simp [newS, crashB]⟩
/-- File j's bytes and steps, the fuse, the power are others. -/
def put_ (s : TS) (j : Nat) (x : List Int × List (Bool × Int) × Int × Bool) : TS := { s with now := upd s.now j x.1, opn := upd s.opn j x.2.1, f := x.2.2.1, d := x.2.2.2 }
theorem put_cof {s : TS} {j : Nat} {x : List Int × List (Bool × Int) × Int × Bool} {C' : Nat → Cont} (h : Else (Cof s) C' j x.1 x.2.1) : ∀ i, Cof (put_ s j x) i = C' i := by
  obtain ⟨h1, h2, h3⟩ := h
  refine cof_eq (fun i => ?_) (fun i => ?_) (fun i => ?_)
  · rw [h3 _ (by omega) (by omega), cof0]; rfl
  · by_cases q : i = j
    · rw [q, h1]; show _ = Cont.bytes (upd s.now j x.1 j); rw [upd_same]
    · rw [h3 _ (by omega) (by omega), cof1]; show _ = Cont.bytes (upd s.now j x.1 i); rw [upd_ne _ _ q]
  · by_cases q : i = j
    · rw [q, h2]; show _ = Cont.steps (upd s.opn j x.2.1 j); rw [upd_same]
    · rw [h3 _ (by omega) (by omega), cof2]; show _ = Cont.steps (upd s.opn j x.2.1 i); rw [upd_ne _ _ q]
/-- Append, Cut, Sync, Read, Open, Crash on states. -/
def appS (s : TS) (i : Int) (b : List Int) : Int × TS :=
  if ¬ (0 ≤ i ∧ i < 4) then (1, s) else if s.d = true then (100, s) else if 1048576 < (s.now i.toNat).length + b.length then (90, s)
  else ((appT b (s.now i.toNat) (s.opn i.toNat) s.f false).1, put_ s i.toNat (appT b (s.now i.toNat) (s.opn i.toNat) s.f false).2)
def cutS (s : TS) (i n : Int) : Int × TS :=
  if ¬ (0 ≤ i ∧ i < 4) then (1, s) else if n < 0 ∨ (s.now i.toNat).length < n then (1, s) else if s.d = true then (100, s)
  else if (powT s.f false).1 = true then (0, put_ s i.toNat ((s.now i.toNat).take n.toNat, s.opn i.toNat ++ [(true, n)], (powT s.f false).2)) else (100, { s with f := (powT s.f false).2.1, d := (powT s.f false).2.2 })
def syncS (s : TS) (i : Int) : Int × TS :=
  if ¬ (0 ≤ i ∧ i < 4) then (1, s) else if s.d = true then (100, s)
  else if (powT s.f false).1 = true then (0, ⟨upd s.sure i.toNat (s.now i.toNat), s.now, upd s.opn i.toNat [], (powT s.f false).2.1, (powT s.f false).2.2⟩) else (100, { s with f := (powT s.f false).2.1, d := (powT s.f false).2.2 })
def readS (s : TS) (i : Int) : List Int × Int := if ¬ (0 ≤ i ∧ i < 4) then ([], 1) else if s.d = true then ([], 100) else (s.now i.toNat, 0)
def openS (s : TS) (i : Int) : Int := if ¬ (0 ≤ i ∧ i < 4) then 0 else (s.opn i.toNat).length
def crashS (s : TS) (ks : List Int) : TS :=
  ⟨fun i => crashB ((s.opn i).take (manyOf ks i (s.opn i).length)) (s.sure i), fun i => crashB ((s.opn i).take (manyOf ks i (s.opn i).length)) (s.sure i), fun _ => [], -1, false⟩
theorem powT_rng {f : Int} {d : Bool} (h0 : -1 ≤ f) (h1 : f ≤ 9223372036854775807) : -1 ≤ (powT f d).2.1 ∧ (powT f d).2.1 ≤ 9223372036854775807 := by
  unfold powT
  split
  · simp
  · split
    · constructor
      · show -1 ≤ f - 1; omega
      · show f - 1 ≤ _; omega
    · exact ⟨h0, h1⟩
/-- What appT comes to. -/
theorem appT_is : ∀ (b now : List Int) (opn : List (Bool × Int)) (f : Int) (d : Bool), -1 ≤ f → f ≤ 9223372036854775807 →
    ∃ m, m ≤ b.length ∧ (appT b now opn f d).2.1 = now ++ b.take m ∧ (appT b now opn f d).2.2.1 = opn ++ (b.take m).map (fun c => (false, c)) ∧ -1 ≤ (appT b now opn f d).2.2.2.1 ∧ (appT b now opn f d).2.2.2.1 ≤ 9223372036854775807
  | [], now, opn, f, d, h0, h1 => ⟨0, Nat.le_refl _, by simp [appT], by simp [appT], h0, h1⟩
  | c :: bs, now, opn, f, d, h0, h1 => by
    have hp := powT_rng (d := d) h0 h1
    rw [appT]
    split
    · obtain ⟨m, hm, e1, e2, e3, e4⟩ := appT_is bs (now ++ [c]) (opn ++ [(false, c)]) _ (powT f d).2.2 hp.1 hp.2
      exact ⟨m + 1, by simp; omega, by rw [e1]; simp, by rw [e2]; simp, e3, e4⟩
    · exact ⟨0, Nat.zero_le _, by simp, by simp, hp.1, hp.2⟩
theorem crashB_bytes : ∀ (b n : List Int), crashB (b.map (fun c => (false, c))) n = n ++ b
  | [], n => by simp [crashB]
  | c :: b, n => by
    show crashB (b.map _) (n ++ [c]) = _
    rw [crashB_bytes b]
    simp
theorem okS_bytes : ∀ (b : List Int) (L : Nat), (∀ x ∈ b, 0 ≤ x ∧ x < 256) → okS (b.map (fun c => (false, c))) L
  | [], _, _ => trivial
  | c :: b, L, h => ⟨(h c (by simp)).1, (h c (by simp)).2, okS_bytes b _ (fun x hx => h x (by simp [hx]))⟩
theorem put_good {n m j : Nat} {s : TS} (h : Fine n s) (hj : j < 4) {x : List Int × List (Bool × Int) × Int × Bool} (l : List (Bool × Int)) (e2 : x.2.1 = s.opn j ++ l) (hl : l.length ≤ m) (e1 : x.1 = crashB l (s.now j)) (hx : x.1.length ≤ 1048576) (hok : okS l (s.now j).length) (hpl : ∀ k, (crashB (l.take k) (s.now j)).length ≤ 1048576) (f0 : -1 ≤ x.2.2.1) (f1 : x.2.2.1 ≤ 9223372036854775807) : Fine (n + m) (put_ s j x) := by
  refine ⟨f0, f1, h.sl, fun i hi => ?_, fun i hi => ?_, fun i hi => ?_, fun i hi => ?_, fun i hi k => ?_⟩
  · show (upd s.now j x.1 i).length ≤ _
    by_cases q : i = j
    · rw [q, upd_same]; exact hx
    · rw [upd_ne _ _ q]; exact h.nl i hi
  · show (upd s.opn j x.2.1 i).length ≤ _
    by_cases q : i = j
    · rw [q, upd_same, e2, List.length_append]; have := h.ol j hj; omega
    · rw [upd_ne _ _ q]; have := h.ol i hi; omega
  · show okS (upd s.opn j x.2.1 i) (s.sure i).length
    by_cases q : i = j
    · rw [q, upd_same, e2]; exact okS_app _ _ _ (h.ok j hj) (by rw [h.eq j hj]; exact hok)
    · rw [upd_ne _ _ q]; exact h.ok i hi
  · show crashB (upd s.opn j x.2.1 i) (s.sure i) = upd s.now j x.1 i
    by_cases q : i = j
    · rw [q, upd_same, upd_same, e2, e1, crashB_app, h.eq j hj]
    · rw [upd_ne _ _ q, upd_ne _ _ q]; exact h.eq i hi
  · show (crashB ((upd s.opn j x.2.1 i).take k) (s.sure i)).length ≤ _
    by_cases q : i = j
    · rw [q, upd_same, e2]
      by_cases hk : k ≤ (s.opn j).length
      · rw [List.take_append_of_le_length hk]; exact h.pl j hj k
      · rw [List.take_append, List.take_of_length_le (by omega), crashB_app, h.eq j hj]; exact hpl _
    · rw [upd_ne _ _ q]; exact h.pl i hi k
theorem appS_good {n : Nat} {s : TS} (h : Fine n s) (i : Int) (b : List Int) (hb : ∀ x ∈ b, 0 ≤ x ∧ x < 256) : Fine (n + b.length) (appS s i b).2 := by
  unfold appS
  split
  · exact h.mono (Nat.le_add_right _ _)
  · split
    · exact h.mono (Nat.le_add_right _ _)
    · split
      · exact h.mono (Nat.le_add_right _ _)
      · rename_i hi _ hf
        have hi := Classical.not_not.1 hi
        obtain ⟨m, hm, e1, e2, e3, e4⟩ := appT_is b (s.now i.toNat) (s.opn i.toNat) s.f false h.f0 h.f1
        refine put_good h (by omega) _ e2 (by rw [List.length_map, List.length_take]; omega) (by rw [crashB_bytes]; exact e1) (by rw [e1, List.length_append, List.length_take]; omega) (okS_bytes _ _ (fun x hx => hb x (List.mem_of_mem_take hx))) (fun k => ?_) e3 e4
        rw [← List.map_take, crashB_bytes, List.length_append, List.length_take, List.length_take]; omega
theorem setf_good {n : Nat} {s : TS} (h : Fine n s) (f : Int) (d : Bool) (f0 : -1 ≤ f) (f1 : f ≤ 9223372036854775807) : Fine n { s with f := f, d := d } := ⟨f0, f1, h.sl, h.nl, h.ol, h.ok, h.eq, h.pl⟩
theorem cutS_good {n : Nat} {s : TS} (h : Fine n s) (i k : Int) : Fine (n + 1) (cutS s i k).2 := by
  have hp := powT_rng (d := false) h.f0 h.f1
  unfold cutS
  split
  · exact h.mono (Nat.le_add_right _ _)
  · split
    · exact h.mono (Nat.le_add_right _ _)
    · split
      · exact h.mono (Nat.le_add_right _ _)
      · rename_i hi hk _
        have hi := Classical.not_not.1 hi
        split
        · have hnl := h.nl i.toNat (by omega)
          refine put_good h (by omega) [(true, k)] rfl (Nat.le_refl _) rfl ?_ ⟨by omega, by omega, trivial⟩ (fun m => ?_) hp.1 hp.2
          · show (List.take _ _).length ≤ _
            rw [List.length_take]; omega
          · rcases m with _ | m
            · exact hnl
            · show (crashB ((true, k) :: List.take m []) _).length ≤ _
              rw [List.take_nil]
              show (List.take _ _).length ≤ _
              rw [List.length_take]; omega
        · exact (setf_good h _ _ hp.1 hp.2).mono (Nat.le_add_right _ _)
theorem syncS_good {n : Nat} {s : TS} (h : Fine n s) (i : Int) : Fine n (syncS s i).2 := by
  have hp := powT_rng (d := false) h.f0 h.f1
  unfold syncS
  split
  · exact h
  · split
    · exact h
    · split
      · refine ⟨hp.1, hp.2, fun j hj => ?_, h.nl, fun j hj => ?_, fun j hj => ?_, fun j hj => ?_, fun j hj m => ?_⟩
        · show (upd s.sure i.toNat (s.now i.toNat) j).length ≤ _
          by_cases q : j = i.toNat
          · rw [q, upd_same]; rw [q] at hj; exact h.nl _ hj
          · rw [upd_ne _ _ q]; exact h.sl j hj
        · show (upd s.opn i.toNat [] j).length ≤ _
          by_cases q : j = i.toNat
          · rw [q, upd_same]; exact Nat.zero_le _
          · rw [upd_ne _ _ q]; exact h.ol j hj
        · show okS (upd s.opn i.toNat [] j) (upd s.sure i.toNat (s.now i.toNat) j).length
          by_cases q : j = i.toNat
          · rw [q, upd_same]; trivial
          · rw [upd_ne _ _ q, upd_ne _ _ q]; exact h.ok j hj
        · show crashB (upd s.opn i.toNat [] j) (upd s.sure i.toNat (s.now i.toNat) j) = s.now j
          by_cases q : j = i.toNat
          · rw [q, upd_same, upd_same]; rfl
          · rw [upd_ne _ _ q, upd_ne _ _ q]; exact h.eq j hj
        · show (crashB ((upd s.opn i.toNat [] j).take m) (upd s.sure i.toNat (s.now i.toNat) j)).length ≤ _
          by_cases q : j = i.toNat
          · rw [q, upd_same, upd_same, List.take_nil]; rw [q] at hj; exact h.nl _ hj
          · rw [upd_ne _ _ q, upd_ne _ _ q]; exact h.pl j hj m
      · exact setf_good h _ _ hp.1 hp.2
theorem crashS_good {n : Nat} {s : TS} (h : Fine n s) (ks : List Int) : Fine 0 (crashS s ks) :=
  ⟨by show (-1 : Int) ≤ -1; omega, by show (-1 : Int) ≤ _; omega, fun i hi => h.pl i hi _, fun i hi => h.pl i hi _, fun i hi => Nat.le_refl _, fun i hi => trivial, fun i hi => rfl, fun i hi m => by show (crashB (List.take m []) _).length ≤ _; rw [List.take_nil]; exact h.pl i hi _⟩
theorem fuse_rng (n : Int) (h : n ≤ 9223372036854775807) : -1 ≤ fuseOf n ∧ fuseOf n ≤ 9223372036854775807 := by
  unfold fuseOf
  split <;> omega
end Go.Proofs.Ytbccjamcfodeiaa.Tape8
