/- PROVED: what lies apart in memory; a net as a thing; net's methods at an index that is none. No condition beyond what each line says. -/
import Derived.Test.YtglhojkchpbnkaaNetTake
import Derived.WalkKit
import Derived.WalkSpells
import Derived.WalkLawsBesides
import Derived.Outline
import Derived.Lib.Hide
import Derived.Deep.LoopGhost
import Derived.Deep.RegionHeld3
import Derived.Deep.DeepCutAuto
import Derived.Deep.RegionLaw
import Derived.BigQuiet
import Derived.Deep.QuietTactic
namespace Go.Proofs.Ytglhojkchpbnkaa.NetA
open Go.RowKit Go.Proofs.Ytglhojkchpbnkaa.PNetPlays Go.Proofs.Ytglhojkchpbnkaa.Net2 Go.Proofs.Ytglhojkchpbnkaa.NetTake Go.Proofs.YtglhojkchpbnkaaW.PrintWords Go.Proofs.YtglhojkchpbnkaaW.PrintLast Go.Proofs.YtglhojkchpbnkaaW.PrintMore
open Go.Proofs.Ytglhojkchpbnkaa.NetAwake (world_gen)
open Go.Proofs.Ytglhojkchpbnkaa.Net (own_is info29 k29_types at_in len_is look_fin)
set_option linter.unusedSimpArgs false
set_option linter.unusedVariables false
/-- Something in memory: what it says of a world, over blocks of its own. -/
structure Thing where
  H : World → Nat → (Nat → Prop) → Prop
  mono : ∀ {w base ok ok'}, (∀ k, ok k → ok' k) → H w base ok → H w base ok'
  bound : ∀ {w : World} {base ok}, H w base ok → H w base (fun k => ok k ∧ k < w.heap.size)
  lower : ∀ {w base base' ok}, base' ≤ base → H w base ok → H w base' ok
  step : ∀ {w w1 : World} {base ok}, H w base ok → w.heap.size ≤ w1.heap.size → (∀ k, ok k → k < w.heap.size → w1.heap[k]? = w.heap[k]?) → H w1 base ok
/-- Things that lie apart. -/
def Apt (base : Nat) (w : World) (ts : List Thing) : Prop := ∃ O : Nat → Nat → Prop, (∀ i j k, O i k → O j k → i = j) ∧ (∀ i k, O i k → k < w.heap.size) ∧ ∀ (i : Nat) (t : Thing), ts[i]? = some t → t.H w base (O i)
section
variable {base : Nat} {w w1 : World} {ts : List Thing} {t : Thing}
theorem Apt.none_ (base : Nat) (w : World) : Apt base w [] := ⟨fun _ _ => False, fun _ _ _ h => h.elim, fun _ _ h => h.elim, fun i t h => by simp at h⟩
theorem Apt.below (h : Apt base w ts) (hb : Below w.heap.size w w1) : Apt base w1 ts := by
  obtain ⟨O, h1, h2, h3⟩ := h
  exact ⟨O, h1, fun i k hk => Nat.lt_of_lt_of_le (h2 i k hk) hb.size, fun i t ht => t.step (h3 i t ht) hb.size (fun k _ hk => hb.block k hk)⟩
theorem Apt.add (h : Apt base w ts) (hb : Below w.heap.size w w1) (ht : t.H w1 base (fun k => w.heap.size ≤ k)) : Apt base w1 (ts ++ [t]) := by
  obtain ⟨O, h1, h2, h3⟩ := h
  refine ⟨fun i k => if i < ts.length then O i k else i = ts.length ∧ w.heap.size ≤ k ∧ k < w1.heap.size, fun i j k hi hj => ?_, fun i k hk => ?_, fun i t' ht' => ?_⟩
  · dsimp only at hi hj
    split at hi <;> split at hj
    · exact h1 i j k hi hj
    · have := h2 i k hi; omega
    · have := h2 j k hj; omega
    · omega
  · dsimp only at hk
    split at hk
    · exact Nat.lt_of_lt_of_le (h2 i k hk) hb.size
    · exact hk.2.2
  · by_cases q : i < ts.length
    · rw [List.getElem?_append_left q] at ht'
      simp only [if_pos q]
      exact t'.step (h3 i t' ht') hb.size (fun k _ hk => hb.block k hk)
    · rw [List.getElem?_append_right (by omega)] at ht'
      have hi : i = ts.length := by
        by_cases q2 : i - ts.length = 0
        · omega
        · rw [List.getElem?_eq_none (by simp; omega)] at ht'
          cases ht'
      subst hi
      simp only [Nat.sub_self, List.getElem?_cons_zero, Option.some.injEq] at ht'
      subst ht'
      simp only [Nat.lt_irrefl, if_false, true_and]
      exact t.mono (fun k hk => hk) (t.bound ht)
theorem Apt.lower {base' : Nat} (h : Apt base w ts) (hb : base' ≤ base) : Apt base' w ts := by
  obtain ⟨O, h1, h2, h3⟩ := h
  exact ⟨O, h1, h2, fun i t ht => t.lower hb (h3 i t ht)⟩
theorem Apt.take (h : Apt base w ts) (n : Nat) : Apt base w (ts.take n) := by
  obtain ⟨O, h1, h2, h3⟩ := h
  refine ⟨O, h1, h2, fun i t ht => h3 i t ?_⟩
  rw [List.getElem?_take] at ht
  split at ht
  · exact ht
  · cases ht
theorem Apt.get (h : Apt base w ts) {i : Nat} (ht : ts[i]? = some t) : ∃ U, t.H w base U := by
  obtain ⟨O, h1, h2, h3⟩ := h
  exact ⟨_, h3 i t ht⟩
/-- One of the things is opened; what becomes of it is put back. -/
theorem Apt.op (h : Apt base w ts) {i : Nat} (ht : ts[i]? = some t) : ∃ U, t.H w base U ∧ (∀ j t', j ≠ i → ts[j]? = some t' → t'.H w base (fun k => ¬ U k)) ∧
    ∀ (w1 : World) (t1 : Thing), w.heap.size ≤ w1.heap.size → t1.H w1 base (fun k => U k ∨ w.heap.size ≤ k) → Kept w w1 U → Apt base w1 (ts.set i t1) := by
  obtain ⟨O, h1, h2, h3⟩ := h
  refine ⟨O i, h3 i t ht, fun j t' hj ht' => t'.mono (fun k hk hk' => hj (h1 j i k hk hk')) (h3 j t' ht'), fun w1 t1 hs hH hK => ?_⟩
  refine ⟨fun j k => if j = i then (O i k ∨ w.heap.size ≤ k) ∧ k < w1.heap.size else O j k, fun a b k ha hb => ?_, fun j k hk => ?_, fun j t' ht' => ?_⟩
  · dsimp only at ha hb
    split at ha <;> split at hb
    · omega
    · rename_i q1 q2
      rcases ha.1 with ha | ha
      · rw [q1]; exact h1 i b k ha hb
      · have := h2 b k hb; omega
    · rename_i q1 q2
      rcases hb.1 with hb | hb
      · rw [q2]; exact h1 a i k ha hb
      · have := h2 a k ha; omega
    · exact h1 a b k ha hb
  · dsimp only at hk
    split at hk
    · exact hk.2
    · exact Nat.lt_of_lt_of_le (h2 j k hk) hs
  · by_cases q : j = i
    · subst q
      have hl : j < ts.length := (List.getElem?_eq_some_iff.1 ht).1
      rw [List.getElem?_set_self hl] at ht'
      injection ht' with ht'
      subst ht'
      simp only [if_true]
      exact t1.bound hH
    · rw [List.getElem?_set_ne (Ne.symm q)] at ht'
      simp only [if_neg q]
      exact t'.step (h3 j t' ht') hs (fun k hk hl => hK.2 k hl (fun hu => q (h1 j i k hk hu)))
end
/-- Two at once, over the same blocks. -/
def Thing.both (t u : Thing) : Thing where
  H := fun w base ok => t.H w base ok ∧ u.H w base ok
  mono := fun h ht => ⟨t.mono h ht.1, u.mono h ht.2⟩
  bound := fun ht => ⟨t.bound ht.1, u.bound ht.2⟩
  lower := fun hb ht => ⟨t.lower hb ht.1, u.lower hb ht.2⟩
  step := fun ht hs hm => ⟨t.step ht.1 hs hm, u.step ht.2 hs hm⟩
theorem Apt.imp {base : Nat} {w : World} {ts : List Thing} {t t1 : Thing} (h : Apt base w ts) {i : Nat} (ht : ts[i]? = some t) (hi : ∀ ok, t.H w base ok → t1.H w base ok) : Apt base w (ts.set i t1) := by
  obtain ⟨O, h1, h2, h3⟩ := h
  refine ⟨O, h1, h2, fun j t' ht' => ?_⟩
  have hl : i < ts.length := (List.getElem?_eq_some_iff.1 ht).1
  by_cases q : i = j
  · subst q
    rw [List.getElem?_set_self hl] at ht'
    injection ht' with ht'
    subst ht'
    exact hi _ (h3 i t ht)
  · rw [List.getElem?_set_ne q] at ht'
    exact h3 j t' ht'
/-- Bytes in a row of their own. -/
def rowT (v : Value) (l : List Int) : Thing where
  H := fun w base ok => Kd.R (Kd.int .u8) 5 w base ok v l
  mono := fun h hr => Kd.R_mono hr h
  bound := fun h => Kd.R_mono (Kd.R_bound h) (fun k hk => ⟨hk.1, hk.2.2.1⟩)
  lower := fun hb h => Kd.R_lower h hb
  step := fun h _ hm => Kd.R_step h hm
/-- Messages in a row of their own. -/
def listT (v : Value) (l : List S29) : Thing where
  H := fun w base ok => Kd.S k29 29 w base ok v l
  mono := fun h hr => Kd.S_mono hr h
  bound := fun h => Kd.S_mono (Kd.S_bound h) (fun k hk => ⟨hk.1, hk.2.2.1⟩)
  lower := fun hb h => Kd.S_lower h hb
  step := fun h _ hm => Kd.S_step h hm
theorem kept_mono {w w1 : World} {S U : Nat → Prop} (h : Kept w w1 S) (hs : ∀ k, S k → U k) : Kept w w1 U := ⟨h.1, fun k hk hn => h.2 k hk (fun q => hn (hs k q))⟩
/-- The program's net at r, with its messages. -/
def netT (r : Nat) (ms : List S29) : Thing where
  H := fun w base ok => ∃ okl v, NetIs base okl w r v ms ∧ ok r ∧ ∀ k, okl k → ok k ∧ k ≠ r
  mono := fun h ⟨okl, v, hN, hr, ho⟩ => ⟨okl, v, hN, h _ hr, fun k hk => ⟨h _ (ho k hk).1, (ho k hk).2⟩⟩
  bound := fun {w base ok} ⟨okl, v, hN, hr, ho⟩ => ⟨fun k => okl k ∧ k < w.heap.size, v, hN.old (Below.refl _ _), ⟨hr, hN.lt⟩, fun k hk => ⟨⟨(ho k hk.1).1, hk.2⟩, (ho k hk.1).2⟩⟩
  lower := fun hb ⟨okl, v, hN, hr, ho⟩ => ⟨okl, v, ⟨hN.1, Nat.le_trans hb hN.2.1, Kd.S_lower hN.2.2 hb⟩, hr, ho⟩
  step := fun ⟨okl, v, hN, hr, ho⟩ hs hm => ⟨okl, v, ⟨by rw [hm _ hr hN.lt]; exact hN.1, hN.2.1, Kd.S_step hN.2.2 (fun k hk hl => hm k (ho k hk).1 hl)⟩, hr, ho⟩
theorem own_ok {α : Type} {d : Kd α} {e base : Nat} {ok : Nat → Prop} {w : World} {v : Value} {xs : List α} (h : Kd.S d e w base ok v xs) {k : Nat} (hk : some k = v.ownBlock) : ok k := by
  obtain ⟨f, h0, _⟩ := h
  exact h0 k hk.symm
/-- What is done to the messages. -/
def inB (ms : List S29) (i : Int) : Prop := 0 ≤ i ∧ i < ms.length
instance (ms : List S29) (i : Int) : Decidable (inB ms i) := inferInstanceAs (Decidable (_ ∧ _))
def lookS (ms : List S29) (i : Int) : S29 × Int := if inB ms i then (ms.getD i.toNat z29, 0) else (⟨0, 0, []⟩, 1)
def takeS (ms : List S29) (i : Int) : List S29 := if inB ms i then ms.eraseIdx i.toNat else ms
def twiceS (ms : List S29) (i : Int) : Int × List S29 := if inB ms i then (0, ms ++ [ms.getD i.toNat z29]) else (1, ms)
def hitB (ms : List S29) (i j : Int) : Prop := inB ms i ∧ 0 ≤ j ∧ j < (ms.getD i.toNat z29).f2.length
instance (ms : List S29) (i j : Int) : Decidable (hitB ms i j) := inferInstanceAs (Decidable (_ ∧ _ ∧ _))
def hit (p : S29) (j : Nat) (m : Int) : S29 := ⟨p.f0, p.f1, p.f2.set j (Go.bits .xor .u8 (rd p.f2 j) m)⟩
def spoilS (ms : List S29) (i j m : Int) : Int × List S29 := if hitB ms i j then (0, ms.set i.toNat (hit (ms.getD i.toNat z29) j.toNat m)) else (1, ms)
theorem inB_get {ms : List S29} {i : Int} (h : inB ms i) : ms[i.toNat]? = some (ms.getD i.toNat z29) := by
  have : i.toNat < ms.length := by unfold inB at h; omega
  rw [List.getD, List.getElem?_eq_getElem this]
  rfl
set_option maxHeartbeats 400000 in
theorem at_bad (r n cap : Nat) (ao : Option Addr) (i : Int) (hi : ¬ (0 ≤ i ∧ i < n)) (w : World) (h : w.cell? ⟨r, 0, none⟩ = some (.slice ao n cap)) :
    Calls Try.prog 28 #[.pointer (some ⟨r, 0, none⟩), .int .i64 i] w fun e w' => e = .returned (.tuple #[.pointer none, .int .i64 1]) ∧ w = w' := by
  by_cases q : i < 0
  · go_enter Try.func28, Try.ntmps28
    go_wp2
    go_ret2
    exact ⟨rfl, rfl⟩
  · have q0 : 0 ≤ i := by omega
    have q1 : (n : Int) ≤ i := by omega
    go_enter Try.func28, Try.ntmps28
    go_wp2
    go_ret2
    exact ⟨rfl, rfl⟩
set_option maxHeartbeats 400000 in
theorem twice_bad (r n cap : Nat) (ao : Option Addr) (i : Int) (hi : ¬ (0 ≤ i ∧ i < n)) (w : World) (h : w.cell? ⟨r, 0, none⟩ = some (.slice ao n cap)) : Calls Try.prog 12 #[.pointer (some ⟨r, 0, none⟩), .int .i64 i] w fun e w' => e = .returned (.int .i64 1) ∧ w = w' := by
  go_enter Try.func12, Try.ntmps12
  go_wp2_with (first | ((with_reducible go_at_call 28); go_must (refine (at_bad r n cap ao i hi _ h).mono ?_; rintro e w' ⟨rfl, rfl⟩)))
  go_ret
  exact ⟨rfl, rfl⟩
set_option maxHeartbeats 400000 in
theorem spoil_bad (r n cap : Nat) (ao : Option Addr) (i j m : Int) (hi : ¬ (0 ≤ i ∧ i < n)) (w : World) (h : w.cell? ⟨r, 0, none⟩ = some (.slice ao n cap)) : Calls Try.prog 16 #[.pointer (some ⟨r, 0, none⟩), .int .i64 i, .int .i64 j, .int .u8 m] w fun e w' => e = .returned (.int .i64 1) ∧ w = w' := by
  go_enter Try.func16, Try.ntmps16
  go_wp2_with (first | ((with_reducible go_at_call 28); go_must (refine (at_bad r n cap ao i hi _ h).mono ?_; rintro e w' ⟨rfl, rfl⟩)))
  go_ret
  exact ⟨rfl, rfl⟩
set_option maxHeartbeats 4000000 in
set_option maxRecDepth 100000 in
theorem spoil_far (base r k : Nat) (ok : Nat → Prop) (ao : Option Addr) (cap : Nat) (ms : List S29) (p : S29) (j m : Int) (w : World) (hN : NetIs base ok w r (.slice ao ms.length cap) ms) (hp : ms[k]? = some p) (hj : ¬ (0 ≤ j ∧ j < p.f2.length)) :
    Calls Try.prog 16 #[.pointer (some ⟨r, 0, none⟩), .int .i64 k, .int .i64 j, .int .u8 m] w fun e w' => e = .returned (.int .i64 1) ∧ w = w' := by
  have hk : k < ms.length := (List.getElem?_eq_some_iff.1 hp).1
  obtain ⟨b, off, A2, c2, _, rfl, hE, hc2, hC2⟩ := hN.at_ hp
  have hC1 := hN.cell
  clear hN hp hC2
  by_cases q : j < 0
  · go_enter Try.func16, Try.ntmps16
    go_wp2_with (first | ((with_reducible go_at_call 28); go_must (refine (at_in r _ _ ms.length cap k hk _ hC1).mono ?_; (try simp only [Nat.zero_add]); rintro e w' ⟨rfl, rfl⟩)))
    go_ret
    exact ⟨rfl, rfl⟩
  · have q0 : 0 ≤ j := by omega
    have q1 : (p.f2.length : Int) ≤ j := by omega
    go_enter Try.func16, Try.ntmps16
    go_wp2_with (first | ((with_reducible go_at_call 28); go_must (refine (at_in r _ _ ms.length cap k hk _ hC1).mono ?_; (try simp only [Nat.zero_add]); rintro e w' ⟨rfl, rfl⟩)))
    go_ret
    exact ⟨rfl, rfl⟩
set_option maxHeartbeats 400000 in
theorem look_bad (r n cap : Nat) (ao : Option Addr) (i : Int) (hi : ¬ (0 ≤ i ∧ i < n)) (w : World) (h : w.cell? ⟨r, 0, none⟩ = some (.slice ao n cap)) : Calls Try.prog 14 #[.pointer (some ⟨r, 0, none⟩), .int .i64 i] w fun e w' => e = .returned (.tuple #[.agg #[.int .i64 0, .int .i64 0, .slice none 0 0], .int .i64 1]) ∧ Below w.heap.size w w' := by
  have hC := Lib.hid h
  clear h
  go_enter Try.func14, Try.ntmps14
  go_wp2_with (first | ((with_reducible refine gate_dst (N := 4) rfl ?_); refine box_event ?hg (N := 4) ?hd (cs := #[.int .i64 0, .int .i64 0, .slice none 0 0]) (t := 29) ?hr ?_; (case hd => rfl); (case hg => rfl); (case hr => first | (go_simp; done) | (go_simp; rfl)); intro gb hg w1 hbox hb; have hX := Lib.hid hbox; have hY0 : w1.cell? ⟨gb, 0, none⟩ = some (.int .i64 0) := (blk_cell hbox 0).trans rfl; have hY1 : w1.cell? ⟨gb, 1, none⟩ = some (.int .i64 0) := (blk_cell hbox 1).trans rfl; have hY2 : w1.cell? ⟨gb, 2, none⟩ = some (.slice none 0 0) := (blk_cell hbox 2).trans rfl; have hZ0 := blk_frozen hbox 0; have hZ1 := blk_frozen hbox 1; have hZ2 := blk_frozen hbox 2; have hC_ := cell_below hb hC.out; have HC1 := Lib.hid hC_; have hB1 := Lib.hid hb; have hg1 := Lib.hid hg; clear hbox hb hg hC_) | ((with_reducible go_at_call 28); go_must (refine (at_bad r n cap ao i hi _ HC1.out).mono ?_; rintro e w' ⟨rfl, rfl⟩)))
  refine bodyPost_ret (results_ct rfl _ _ gb 29 #[.int .i64 0, .int .i64 0, .slice none 0 0] (0, 0) _ rfl (blk_put (blk_put (blk_put hX.out 0 _ rfl) 1 _ rfl) 2 _ rfl) Try.underlying29 rfl (by kernel_rfl)) rfl ?_
  have hg2 := hg1.out
  exact ⟨rfl, below_set (below_set (below_set hB1.out (by omega)) (by omega)) (by omega)⟩
set_option maxHeartbeats 400000 in
theorem take_bad (r n cap : Nat) (ao : Option Addr) (i : Int) (hi : ¬ (0 ≤ i ∧ i < n)) (w : World) (h : w.cell? ⟨r, 0, none⟩ = some (.slice ao n cap)) : Calls Try.prog 19 #[.pointer (some ⟨r, 0, none⟩), .int .i64 i] w fun e w' => e = .returned (.tuple #[.agg #[.int .i64 0, .int .i64 0, .slice none 0 0], .int .i64 1]) ∧ Below w.heap.size w w' := by
  have hC := Lib.hid h
  clear h
  go_enter Try.func19, Try.ntmps19
  go_wp2_with (first | ((with_reducible refine gate_dst (N := 4) rfl ?_); refine box_event ?hg (N := 4) ?hd (cs := #[.int .i64 0, .int .i64 0, .slice none 0 0]) (t := 29) ?hr ?_; (case hd => rfl); (case hg => rfl); (case hr => first | (go_simp; done) | (go_simp; rfl)); intro gb hg w1 hbox hb; have hX := Lib.hid hbox; have hY0 : w1.cell? ⟨gb, 0, none⟩ = some (.int .i64 0) := (blk_cell hbox 0).trans rfl; have hY1 : w1.cell? ⟨gb, 1, none⟩ = some (.int .i64 0) := (blk_cell hbox 1).trans rfl; have hY2 : w1.cell? ⟨gb, 2, none⟩ = some (.slice none 0 0) := (blk_cell hbox 2).trans rfl; have hZ0 := blk_frozen hbox 0; have hZ1 := blk_frozen hbox 1; have hZ2 := blk_frozen hbox 2; have hC_ := cell_below hb hC.out; have HC1 := Lib.hid hC_; have hB1 := Lib.hid hb; have hg1 := Lib.hid hg; clear hbox hb hg hC_) | ((with_reducible go_at_call 28); go_must (refine (at_bad r n cap ao i hi _ HC1.out).mono ?_; rintro e w' ⟨rfl, rfl⟩)))
  refine bodyPost_ret (results_ct rfl _ _ gb 29 #[.int .i64 0, .int .i64 0, .slice none 0 0] (0, 0) _ rfl (blk_put (blk_put (blk_put hX.out 0 _ rfl) 1 _ rfl) 2 _ rfl) Try.underlying29 rfl (by kernel_rfl)) rfl ?_
  have hg2 := hg1.out
  exact ⟨rfl, below_set (below_set (below_set hB1.out (by omega)) (by omega)) (by omega)⟩
end Go.Proofs.Ytglhojkchpbnkaa.NetA
