/- PROVED: a tape in memory, and the contracts of its small methods. No condition beyond what each line says. -/
import Derived.Test.YtbccjamcfodeiaaPTapePlaysx1
import Derived.Test.YtbccjamcfodeiaaLRead
import Derived.Test.YtbccjamcfodeiaaWApart
import Derived.Test.YtbccjamcfodeiaaWKept
import Derived.WalkKit
import Derived.WalkSpells
import Derived.WalkLawsBesides
import Derived.WalkMore
import Derived.Outline
import Derived.Lib.Hide
import Derived.BigQuiet
import Derived.Deep.QuietTactic
import Derived.Deep.RegionHeld3
import Derived.Deep.RegionLaw
import Derived.Deep.LoopGhost
import Derived.Deep.DeepCutAuto
namespace Go.Proofs.Ytbccjamcfodeiaa.Tape
open Go.RowKit Go.Proofs.Ytbccjamcfodeiaa.PTapePlays Go.Proofs.YtbccjamcfodeiaaW.PrintWords Go.Proofs.YtbccjamcfodeiaaW.PrintLast Go.Proofs.YtbccjamcfodeiaaW.PrintMore
set_option linter.unusedSimpArgs false
set_option linter.unusedVariables false
/-- A step: a byte (false), or a cut (true). -/
abbrev kS : Kd (Bool × Int) := Kd.pair Kd.bool (Kd.int .i64)
/-- What a slot of a tape leads to: bytes, or steps. -/
inductive Cont where
  | bytes (l : List Int)
  | steps (l : List (Bool × Int))
/-- Bytes of one's own: a row of one's own, or what a cut has left of one. -/
def OwnB (w : World) (base : Nat) (ok : Nat → Prop) (v : Value) (l : List Int) : Prop :=
  Kd.R (Kd.int .u8) 5 w base ok v l ∨ (∃ A, v = .slice A l.length l.length ∧ (∀ k, v.ownBlock = some k → ok k ∧ base ≤ k ∧ k < w.heap.size) ∧ Kd.C (Kd.int .u8) w A l.length l)
theorem C_blk {w w1 : World} {A : Option Addr} {n : Nat} {l : List Int} (h : Kd.C (Kd.int .u8) w A n l) (hm : ∀ a, A = some a → w1.heap[a.block]? = w.heap[a.block]?) : Kd.C (Kd.int .u8) w1 A n l := by
  refine ⟨h.1, h.2.1, fun hn => ?_⟩
  obtain ⟨ad, e, hc⟩ := h.2.2 hn
  refine ⟨ad, e, fun j p hj => ?_⟩
  obtain ⟨c, h1, h2, h3⟩ := hc j p hj
  exact ⟨c, h1, h2, fun i u hu => (World.cell?_of_block (by rw [add_block]; exact hm ad e)).trans (h3 i u hu)⟩
section
variable {w w1 : World} {base : Nat} {ok ok' : Nat → Prop} {v : Value} {l : List Int}
theorem OwnB.mono (h : OwnB w base ok v l) (ho : ∀ k, ok k → ok' k) : OwnB w base ok' v l := by
  rcases h with h | ⟨A, h1, h2, h3⟩
  · exact .inl (Kd.R_mono h ho)
  · exact .inr ⟨A, h1, fun k hk => ⟨ho k (h2 k hk).1, (h2 k hk).2⟩, h3⟩
theorem OwnB.bound (h : OwnB w base ok v l) : OwnB w base (fun k => ok k ∧ base ≤ k ∧ k < w.heap.size) v l := by
  rcases h with h | ⟨A, h1, h2, h3⟩
  · exact .inl (Kd.R_mono (Kd.R_bound h) (fun k hk => ⟨hk.1, hk.2.1, hk.2.2.1⟩))
  · exact .inr ⟨A, h1, fun k hk => ⟨h2 k hk, (h2 k hk).2⟩, h3⟩
theorem OwnB.step (h : OwnB w base ok v l) (hs : w.heap.size ≤ w1.heap.size) (hm : ∀ k, ok k → k < w.heap.size → w1.heap[k]? = w.heap[k]?) : OwnB w1 base ok v l := by
  rcases h with h | ⟨A, h1, h2, h3⟩
  · exact .inl (Kd.R_step h hm)
  · refine .inr ⟨A, h1, fun k hk => ⟨(h2 k hk).1, (h2 k hk).2.1, Nat.lt_of_lt_of_le (h2 k hk).2.2 hs⟩, C_blk h3 (fun a ha => ?_)⟩
    have hb := h2 a.block (by rw [h1, ha]; rfl)
    exact hm _ hb.1 hb.2.2
theorem OwnB.reads' {A : Option Addr} {n c : Nat} (h : OwnB w base ok (.slice A n c) l) : n = l.length ∧ n ≤ c ∧ Kd.C (Kd.int .u8) w A l.length l := by
  rcases h with h | ⟨A', h1, h2, h3⟩
  · exact Kd.R_reads' h
  · injection h1 with a1 a2 a3
    subst a1; subst a2; subst a3
    exact ⟨rfl, Nat.le_refl _, h3⟩
theorem OwnB.slice (h : OwnB w base ok v l) : ∃ A c, v = .slice A l.length c := by
  rcases h with h | ⟨A, h1, h2, h3⟩
  · exact Kd.R_slice h
  · exact ⟨A, _, h1⟩
theorem OwnB.blk (h : OwnB w base ok v l) : ∀ k, v.ownBlock = some k → ok k := by
  rcases h with h | ⟨A, h1, h2, h3⟩
  · exact h.1
  · exact fun k hk => (h2 k hk).1
theorem C_tkB {A : Option Addr} {n : Nat} (h : Kd.C (Kd.int .u8) w A l.length l) (hn : n ≤ l.length) : Kd.C (Kd.int .u8) w A n (l.take n) := by
  have := Kd.C_take (m := n) h hn
  rwa [show (l.take n).length = n by rw [List.length_take]; omega] at this
theorem OwnB.cut {A : Option Addr} {m c n : Nat} (h : OwnB w base ok (.slice A m c) l) (hn : n ≤ l.length) : OwnB w base ok (.slice A n n) (l.take n) := by
  have hl : (l.take n).length = n := by rw [List.length_take]; omega
  refine .inr ⟨A, by rw [hl], fun k hk => ?_, by rw [hl]; exact C_tkB h.reads'.2.2 hn⟩
  exact h.bound.blk k (by cases A <;> exact hk)
end
/-- A slot's value, and what it owns. -/
def Own (w : World) (base : Nat) (ok : Nat → Prop) (v : Value) : Cont → Prop
  | .bytes l => OwnB w base ok v l
  | .steps l => Kd.R kS 71 w base ok v l
section
variable {w w1 : World} {base : Nat} {ok ok' : Nat → Prop} {v : Value} {c : Cont}
theorem Own.mono (h : Own w base ok v c) (ho : ∀ k, ok k → ok' k) : Own w base ok' v c := by
  cases c
  · exact OwnB.mono h ho
  · exact Kd.R_mono h ho
theorem Own.bound (h : Own w base ok v c) : Own w base (fun k => ok k ∧ base ≤ k ∧ k < w.heap.size) v c := by
  cases c
  · exact OwnB.bound h
  · exact Kd.R_mono (Kd.R_bound h) (fun k hk => ⟨hk.1, hk.2.1, hk.2.2.1⟩)
theorem Own.step (h : Own w base ok v c) (hs : w.heap.size ≤ w1.heap.size) (hm : ∀ k, ok k → k < w.heap.size → w1.heap[k]? = w.heap[k]?) : Own w1 base ok v c := by
  cases c
  · exact OwnB.step h hs hm
  · exact Kd.R_step h hm
theorem Own.far (h : Own w base ok v c) {p : Addr} (ho : ∀ k, ok k → k ≠ p.block) (u : Value) : Own (w.setCell p u) base ok v c := h.step (by simp [World.setCell]) (fun k hk _ => Below.heap_setCell w p u k (ho k hk))
theorem Own.below (h : Own w base ok v c) (hb : Below w.heap.size w w1) : Own w1 base ok v c := h.step hb.size (fun k _ hk => hb.block k hk)
end
/-- A tape's cells: four files of three slices each, the fuse, whether it is down. -/
def cellsOf (V : Nat → Value) (f : Int) (d : Bool) : Array Value := #[V 0, V 1, V 2, V 3, V 4, V 5, V 6, V 7, V 8, V 9, V 10, V 11, .int .i64 f, .bool d]
/-- A slot is another one. -/
def upd {α : Type} (V : Nat → α) (j : Nat) (v : α) : Nat → α := fun i => if i = j then v else V i
theorem upd_same {α : Type} (V : Nat → α) (j : Nat) (v : α) : upd V j v j = v := by simp [upd]
theorem upd_ne {α : Type} (V : Nat → α) {i j : Nat} (v : α) (h : i ≠ j) : upd V j v i = V i := by simp [upd, h]
theorem cells_at (V : Nat → Value) (f : Int) (d : Bool) {j : Nat} (h : j < 12) : (cellsOf V f d)[j]? = some (V j) := by
  match j, h with
  | 0, _ => rfl
  | 1, _ => rfl
  | 2, _ => rfl
  | 3, _ => rfl
  | 4, _ => rfl
  | 5, _ => rfl
  | 6, _ => rfl
  | 7, _ => rfl
  | 8, _ => rfl
  | 9, _ => rfl
  | 10, _ => rfl
  | 11, _ => rfl
theorem cells_set (V : Nat → Value) (f : Int) (d : Bool) {j : Nat} (h : j < 12) (v : Value) : (cellsOf V f d).setIfInBounds j v = cellsOf (upd V j v) f d := by
  match j, h with
  | 0, _ => rfl
  | 1, _ => rfl
  | 2, _ => rfl
  | 3, _ => rfl
  | 4, _ => rfl
  | 5, _ => rfl
  | 6, _ => rfl
  | 7, _ => rfl
  | 8, _ => rfl
  | 9, _ => rfl
  | 10, _ => rfl
  | 11, _ => rfl
theorem cells_fuse (V : Nat → Value) (f : Int) (d : Bool) (x : Int) : (cellsOf V f d).setIfInBounds 12 (.int .i64 x) = cellsOf V x d := rfl
theorem cells_down (V : Nat → Value) (f : Int) (d : Bool) (x : Bool) : (cellsOf V f d).setIfInBounds 13 (.bool x) = cellsOf V f x := rfl
/-- A tape at block r: its slots are V, and lead to C; slot j owns blocks of S j alone; no two slots share one. -/
def TapeIs (base : Nat) (S : Nat → Nat → Prop) (w : World) (r : Nat) (V : Nat → Value) (C : Nat → Cont) (f : Int) (d : Bool) : Prop :=
  w.heap[r]? = some (.cells (cellsOf V f d) 66 (0, 0)) ∧ base ≤ r ∧ (∀ j, j < 12 → Own w base (S j) (V j) (C j)) ∧ (∀ i j k, S i k → S j k → i = j) ∧ (∀ j k, S j k → base ≤ k ∧ k < w.heap.size ∧ k ≠ r)
/-- A tape at block r, whatever its slots are; r and what it owns are blocks of U. -/
def TapeU (base : Nat) (U : Nat → Prop) (w : World) (r : Nat) (C : Nat → Cont) (f : Int) (d : Bool) : Prop :=
  ∃ S V, TapeIs base S w r V C f d ∧ U r ∧ ∀ j k, S j k → U k
section
variable {base : Nat} {S : Nat → Nat → Prop} {U : Nat → Prop} {w w1 : World} {r : Nat} {V : Nat → Value} {C : Nat → Cont} {f : Int} {d : Bool}
theorem TapeIs.cell (h : TapeIs base S w r V C f d) {j : Nat} (hj : j < 12) : w.cell? ⟨r, j, none⟩ = some (V j) := (blk_cell h.1 j).trans (cells_at V f d hj)
theorem TapeIs.fuse (h : TapeIs base S w r V C f d) : w.cell? ⟨r, 12, none⟩ = some (.int .i64 f) := (blk_cell h.1 12).trans rfl
theorem TapeIs.down (h : TapeIs base S w r V C f d) : w.cell? ⟨r, 13, none⟩ = some (.bool d) := (blk_cell h.1 13).trans rfl
theorem TapeIs.free (h : TapeIs base S w r V C f d) (j : Nat) : w.frozen? ⟨r, j, none⟩ = false := blk_frozen h.1 j
theorem TapeIs.lt (h : TapeIs base S w r V C f d) : r < w.heap.size := blk_lt h.1
theorem TapeIs.below (h : TapeIs base S w r V C f d) (hb : Below w.heap.size w w1) : TapeIs base S w1 r V C f d :=
  ⟨blk_below h.1 hb, h.2.1, fun j hj => (h.2.2.1 j hj).below hb, h.2.2.2.1, fun j k hk => ⟨(h.2.2.2.2 j k hk).1, Nat.lt_of_lt_of_le (h.2.2.2.2 j k hk).2.1 hb.size, (h.2.2.2.2 j k hk).2.2⟩⟩
theorem TapeIs.kept {K : Nat → Prop} (h : TapeIs base S w r V C f d) (hk : Kept w w1 K) (hr : ¬ K r) (hs : ∀ j k, S j k → ¬ K k) : TapeIs base S w1 r V C f d :=
  ⟨blk_kept h.1 hk hr, h.2.1, fun j hj => (h.2.2.1 j hj).step hk.1 (fun k ho hl => hk.2 k hl (hs j k ho)), h.2.2.2.1, fun j k hS => ⟨(h.2.2.2.2 j k hS).1, Nat.lt_of_lt_of_le (h.2.2.2.2 j k hS).2.1 hk.1, (h.2.2.2.2 j k hS).2.2⟩⟩
theorem TapeIs.setFuse (h : TapeIs base S w r V C f d) (x : Int) : TapeIs base S (w.setCell ⟨r, 12, none⟩ (.int .i64 x)) r V C x d :=
  ⟨blk_put h.1 12 _ rfl, h.2.1, fun j hj => (h.2.2.1 j hj).far (fun k hk => (h.2.2.2.2 j k hk).2.2) _, h.2.2.2.1, fun j k hk => ⟨(h.2.2.2.2 j k hk).1, by have := (h.2.2.2.2 j k hk).2.1; simpa [World.setCell] using this, (h.2.2.2.2 j k hk).2.2⟩⟩
theorem TapeIs.setDown (h : TapeIs base S w r V C f d) (x : Bool) : TapeIs base S (w.setCell ⟨r, 13, none⟩ (.bool x)) r V C f x :=
  ⟨blk_put h.1 13 _ rfl, h.2.1, fun j hj => (h.2.2.1 j hj).far (fun k hk => (h.2.2.2.2 j k hk).2.2) _, h.2.2.2.1, fun j k hk => ⟨(h.2.2.2.2 j k hk).1, by have := (h.2.2.2.2 j k hk).2.1; simpa [World.setCell] using this, (h.2.2.2.2 j k hk).2.2⟩⟩
/-- Slot j was written: its own block, or none, was written, and fresh blocks. -/
theorem TapeIs.put {row : Option Nat} {j : Nat} {v : Value} {c : Cont} (h : TapeIs base S w r V C f d) (hj : j < 12) (hg : w.grownBy w1 row) (hrow : ∀ k, row = some k → S j k) (hbw : base ≤ w.heap.size) (ho : Own w1 base (fun k => S j k ∨ w.heap.size ≤ k) v c) :
    TapeIs base (fun i k => if i = j then S j k ∨ (w.heap.size ≤ k ∧ k < w1.heap.size) else S i k) (w1.setCell ⟨r, j, none⟩ v) r (upd V j v) (upd C j c) f d := by
  obtain ⟨h1, h2, h3, h4, h5⟩ := h
  have hlt := blk_lt h1
  have hr : ∀ k, row = some k → k ≠ r := fun k hk => (h5 j k (hrow k hk)).2.2
  have hX : w1.heap[r]? = some (.cells (cellsOf V f d) 66 (0, 0)) := blk_grown h1 hg (fun e => hr r e.symm rfl)
  refine ⟨blk_put hX j v (cells_set V f d hj v), h2, fun i hi => ?_, fun i i' k hk hk' => ?_, fun i k hk => ?_⟩
  · by_cases q : i = j
    · subst q
      rw [upd_same, upd_same]
      refine Own.far (Own.mono ho.bound (fun k hk => ?_)) (fun k hk => ?_) _
      · simp only [if_true]
        rcases hk.1 with hk1 | hk1
        · exact .inl hk1
        · exact .inr ⟨hk1, hk.2.2⟩
      · simp only [if_true] at hk
        rcases hk with hk | hk
        · exact (h5 i k hk).2.2
        · show k ≠ r; omega
    · rw [upd_ne _ _ q, upd_ne _ _ q]
      simp only [if_neg q]
      refine Own.far ((h3 i hi).step hg.size (fun k hk hl => hg.block k hl (fun e => ?_))) (fun k hk => (h5 i k hk).2.2) _
      exact q (h4 i j k hk (hrow k e.symm))
  · by_cases q : i = j <;> by_cases q' : i' = j
    · rw [q, q']
    · simp only [if_pos q, if_neg q'] at hk hk'
      rcases hk with hk | hk
      · rw [q]; exact h4 j i' k hk hk'
      · have := (h5 i' k hk').2.1; omega
    · simp only [if_neg q, if_pos q'] at hk hk'
      rcases hk' with hk' | hk'
      · rw [q']; exact h4 i j k hk hk'
      · have := (h5 i k hk).2.1; omega
    · simp only [if_neg q, if_neg q'] at hk hk'
      exact h4 i i' k hk hk'
  · have hsz : (w1.setCell ⟨r, j, none⟩ v).heap.size = w1.heap.size := by simp [World.setCell]
    rw [hsz]
    have hge := hg.size
    by_cases q : i = j
    · simp only [if_pos q] at hk
      rcases hk with hk | hk
      · have := h5 j k hk; omega
      · omega
    · simp only [if_neg q] at hk
      have := h5 i k hk; omega
/-- The same, told of a tape alone. -/
theorem TapeU.put_ {row : Option Nat} {j : Nat} {v : Value} {c : Cont} (h : TapeIs base S w r V C f d) (hU : U r) (hS : ∀ j k, S j k → U k) (hj : j < 12) (hg : w.grownBy w1 row) (hrow : ∀ k, row = some k → S j k) (hbw : base ≤ w.heap.size) (ho : Own w1 base (fun k => S j k ∨ w.heap.size ≤ k) v c) :
    TapeU base (fun k => U k ∨ w.heap.size ≤ k) (w1.setCell ⟨r, j, none⟩ v) r (upd C j c) f d := by
  refine ⟨_, _, h.put hj hg hrow hbw ho, .inl hU, fun i k hk => ?_⟩
  by_cases q : i = j
  · simp only [if_pos q] at hk
    rcases hk with hk | hk
    · exact .inl (hS j k hk)
    · exact .inr hk.1
  · simp only [if_neg q] at hk
    exact .inl (hS i k hk)
end
theorem fuse_nil (n : Int) (w : World) : Calls Try.prog 28 #[.pointer none, .int .i64 n] w fun e w' => e = .returned (.tuple #[]) ∧ w = w' := by
  go_enter Try.func28, Try.ntmps28
  go_wp2
  go_end0
  exact ⟨rfl, rfl⟩
theorem at_nil (i : Int) (w : World) : Calls Try.prog 29 #[.pointer none, .int .i64 i] w fun e w' => e = .returned (.tuple #[.pointer none, .int .i64 2]) ∧ w = w' := by
  go_enter Try.func29, Try.ntmps29
  go_wp2
  go_ret2
  exact ⟨rfl, rfl⟩
theorem read_nil (i : Int) (w : World) : Calls Try.prog 14 #[.pointer none, .int .i64 i] w fun e w' => e = .returned (.tuple #[.slice none 0 0, .int .i64 2]) ∧ w = w' := by
  go_enter Try.func14, Try.ntmps14
  go_wp2_with (first | ((with_reducible go_at_call 29); go_must (refine (at_nil _ _).mono ?_; rintro e w' ⟨rfl, rfl⟩)))
  go_ret2
  exact ⟨rfl, rfl⟩
theorem append_nil (i : Int) (A : Option Addr) (n c : Nat) (w : World) : Calls Try.prog 13 #[.pointer none, .int .i64 i, .slice A n c] w fun e w' => e = .returned (.int .i64 2) ∧ w = w' := by
  go_enter Try.func13, Try.ntmps13
  go_wp2_with (first | ((with_reducible go_at_call 29); go_must (refine (at_nil _ _).mono ?_; rintro e w' ⟨rfl, rfl⟩)))
  go_ret
  exact ⟨rfl, rfl⟩
theorem cut_nil (i n : Int) (w : World) : Calls Try.prog 22 #[.pointer none, .int .i64 i, .int .i64 n] w fun e w' => e = .returned (.int .i64 2) ∧ w = w' := by
  go_enter Try.func22, Try.ntmps22
  go_wp2_with (first | ((with_reducible go_at_call 29); go_must (refine (at_nil _ _).mono ?_; rintro e w' ⟨rfl, rfl⟩)))
  go_ret
  exact ⟨rfl, rfl⟩
theorem sync_nil (i : Int) (w : World) : Calls Try.prog 17 #[.pointer none, .int .i64 i] w fun e w' => e = .returned (.int .i64 2) ∧ w = w' := by
  go_enter Try.func17, Try.ntmps17
  go_wp2_with (first | ((with_reducible go_at_call 29); go_must (refine (at_nil _ _).mono ?_; rintro e w' ⟨rfl, rfl⟩)))
  go_ret
  exact ⟨rfl, rfl⟩
theorem open_nil (i : Int) (w : World) : Calls Try.prog 21 #[.pointer none, .int .i64 i] w fun e w' => e = .returned (.int .i64 0) ∧ w = w' := by
  go_enter Try.func21, Try.ntmps21
  go_wp2_with (first | ((with_reducible go_at_call 29); go_must (refine (at_nil _ _).mono ?_; rintro e w' ⟨rfl, rfl⟩)))
  go_ret
  exact ⟨rfl, rfl⟩
theorem down_nil (w : World) : Calls Try.prog 26 #[.pointer none] w fun e w' => e = .returned (.bool true) ∧ w = w' := by
  go_enter Try.func26, Try.ntmps26
  go_wp2
  go_ret
  exact ⟨rfl, rfl⟩
theorem crash_nil (A : Option Addr) (n c : Nat) (w : World) : Calls Try.prog 19 #[.pointer none, .slice A n c] w fun e w' => e = .returned (.pointer none) ∧ w = w' := by
  go_enter Try.func19, Try.ntmps19
  go_wp2
  go_ret
  exact ⟨rfl, rfl⟩
theorem at_ok (r i : Nat) (w : World) (hi : i < 4) : Calls Try.prog 29 #[.pointer (some ⟨r, 0, none⟩), .int .i64 i] w fun e w' => e = .returned (.tuple #[.pointer (some ⟨r, i * 3, none⟩), .int .i64 0]) ∧ w = w' := by
  have hiI : (i : Int) < 4 := by omega
  go_enter Try.func29, Try.ntmps29
  go_wp2
  go_ret2

  exact ⟨rfl, rfl⟩
theorem at_bad (r : Nat) (i : Int) (w : World) (hi : ¬ (0 ≤ i ∧ i < 4)) : Calls Try.prog 29 #[.pointer (some ⟨r, 0, none⟩), .int .i64 i] w fun e w' => e = .returned (.tuple #[.pointer none, .int .i64 1]) ∧ w = w' := by
  by_cases q : i < 0
  · have q' : decide (i < 0) = true := by simpa using q
    go_enter Try.func29, Try.ntmps29
    go_wp2
    go_ret2
    exact ⟨rfl, rfl⟩
  · have q1 : 0 ≤ i := by omega
    have q' : decide (i < 0) = false := by simpa using q
    have q2 : 4 ≤ i := by omega
    go_enter Try.func29, Try.ntmps29
    go_wp2
    go_ret2
    exact ⟨rfl, rfl⟩
end Go.Proofs.Ytbccjamcfodeiaa.Tape
