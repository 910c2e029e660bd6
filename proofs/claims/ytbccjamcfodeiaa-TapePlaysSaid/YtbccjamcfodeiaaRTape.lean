/- PROVED: the reference's tape in memory. No condition beyond what each line says. -/
import Derived.Test.YtbccjamcfodeiaaTapeP2
import Derived.Test.YtbccjamcfodeiaaLRead
import Derived.Test.YtbccjamcfodeiaaWApart
import Derived.Test.YtbccjamcfodeiaaWKept
import Derived.WalkKit
import Derived.WalkSpells
import Derived.WalkLawsBesides
import Derived.WalkMore
import Derived.Outline
import Derived.Lib.Hide
import Derived.BigQuiet
import Derived.Deep.QuietTactic
import Derived.Deep.RegionHeld3
import Derived.Deep.RegionLaw
import Derived.Deep.LoopGhost
import Derived.Deep.DeepCutAuto
namespace Go.Proofs.Ytbccjamcfodeiaa.RTape
open Go.RowKit Go.Proofs.Ytbccjamcfodeiaa.PTapePlays Go.Proofs.YtbccjamcfodeiaaW.PrintWords Go.Proofs.YtbccjamcfodeiaaW.PrintLast Go.Proofs.YtbccjamcfodeiaaW.PrintMore
open Go.Proofs.Ytbccjamcfodeiaa.Tape Go.Proofs.Ytbccjamcfodeiaa.Tape2 Go.Proofs.Ytbccjamcfodeiaa.Tape3 Go.Proofs.Ytbccjamcfodeiaa.Tape4 Go.Proofs.Ytbccjamcfodeiaa.Tape5 Go.Proofs.Ytbccjamcfodeiaa.Tape6 Go.Proofs.Ytbccjamcfodeiaa.Tape7 Go.Proofs.Ytbccjamcfodeiaa.Tape8 Go.Proofs.Ytbccjamcfodeiaa.Tape9
open Go.Proofs.Ytbccjamcfodeiaa.TapeW Go.Proofs.Ytbccjamcfodeiaa.TapeF Go.Proofs.Ytbccjamcfodeiaa.TapeP Go.Proofs.Ytbccjamcfodeiaa.TapeP2
set_option linter.unusedSimpArgs false
set_option linter.unusedVariables false
/-- What a slot of a tape leads to: bytes, or steps. -/
inductive RCont where
  | bytes (l : List Int)
  | steps (l : List (S78))
/-- A slot's value, and what it owns. -/
def ROwn (w : World) (base : Nat) (ok : Nat → Prop) (v : Value) : RCont → Prop
  | .bytes l => OwnB w base ok v l
  | .steps l => Kd.R k78 78 w base ok v l
section
variable {w w1 : World} {base : Nat} {ok ok' : Nat → Prop} {v : Value} {c : RCont}
theorem ROwn.mono (h : ROwn w base ok v c) (ho : ∀ k, ok k → ok' k) : ROwn w base ok' v c := by
  cases c
  · exact OwnB.mono h ho
  · exact Kd.R_mono h ho
theorem ROwn.bound (h : ROwn w base ok v c) : ROwn w base (fun k => ok k ∧ base ≤ k ∧ k < w.heap.size) v c := by
  cases c
  · exact OwnB.bound h
  · exact Kd.R_mono (Kd.R_bound h) (fun k hk => ⟨hk.1, hk.2.1, hk.2.2.1⟩)
theorem ROwn.step (h : ROwn w base ok v c) (hs : w.heap.size ≤ w1.heap.size) (hm : ∀ k, ok k → k < w.heap.size → w1.heap[k]? = w.heap[k]?) : ROwn w1 base ok v c := by
  cases c
  · exact OwnB.step h hs hm
  · exact Kd.R_step h hm
theorem ROwn.far (h : ROwn w base ok v c) {p : Addr} (ho : ∀ k, ok k → k ≠ p.block) (u : Value) : ROwn (w.setCell p u) base ok v c := h.step (by simp [World.setCell]) (fun k hk _ => Below.heap_setCell w p u k (ho k hk))
theorem ROwn.below (h : ROwn w base ok v c) (hb : Below w.heap.size w w1) : ROwn w1 base ok v c := h.step hb.size (fun k _ hk => hb.block k hk)
end
/-- A tape's cells: four files of three slices each, the fuse, whether it is down. -/
def rcellsOf (V : Nat → Value) (f : Int) (d : Bool) : Array Value := #[V 0, V 1, V 2, V 3, V 4, V 5, V 6, V 7, .int .i64 f, .bool d]
theorem rcells_at (V : Nat → Value) (f : Int) (d : Bool) {j : Nat} (h : j < 8) : (rcellsOf V f d)[j]? = some (V j) := by
  match j, h with
  | 0, _ => rfl
  | 1, _ => rfl
  | 2, _ => rfl
  | 3, _ => rfl
  | 4, _ => rfl
  | 5, _ => rfl
  | 6, _ => rfl
  | 7, _ => rfl
theorem rcells_set (V : Nat → Value) (f : Int) (d : Bool) {j : Nat} (h : j < 8) (v : Value) : (rcellsOf V f d).setIfInBounds j v = rcellsOf (upd V j v) f d := by
  match j, h with
  | 0, _ => rfl
  | 1, _ => rfl
  | 2, _ => rfl
  | 3, _ => rfl
  | 4, _ => rfl
  | 5, _ => rfl
  | 6, _ => rfl
  | 7, _ => rfl
theorem rcells_fuse (V : Nat → Value) (f : Int) (d : Bool) (x : Int) : (rcellsOf V f d).setIfInBounds 8 (.int .i64 x) = rcellsOf V x d := rfl
theorem rcells_down (V : Nat → Value) (f : Int) (d : Bool) (x : Bool) : (rcellsOf V f d).setIfInBounds 9 (.bool x) = rcellsOf V f x := rfl
/-- A tape at block r: its slots are V, and lead to C; slot j owns blocks of S j alone; no two slots share one. -/
def RefIs (base : Nat) (S : Nat → Nat → Prop) (w : World) (r : Nat) (V : Nat → Value) (C : Nat → RCont) (f : Int) (d : Bool) : Prop :=
  w.heap[r]? = some (.cells (rcellsOf V f d) 57 (0, 0)) ∧ base ≤ r ∧ (∀ j, j < 8 → ROwn w base (S j) (V j) (C j)) ∧ (∀ i j k, S i k → S j k → i = j) ∧ (∀ j k, S j k → base ≤ k ∧ k < w.heap.size ∧ k ≠ r)
/-- A tape at block r, whatever its slots are; r and what it owns are blocks of U. -/
def RefU (base : Nat) (U : Nat → Prop) (w : World) (r : Nat) (C : Nat → RCont) (f : Int) (d : Bool) : Prop :=
  ∃ S V, RefIs base S w r V C f d ∧ U r ∧ ∀ j k, S j k → U k
section
variable {base : Nat} {S : Nat → Nat → Prop} {U : Nat → Prop} {w w1 : World} {r : Nat} {V : Nat → Value} {C : Nat → RCont} {f : Int} {d : Bool}
theorem RefIs.cell (h : RefIs base S w r V C f d) {j : Nat} (hj : j < 8) : w.cell? ⟨r, j, none⟩ = some (V j) := (blk_cell h.1 j).trans (rcells_at V f d hj)
theorem RefIs.fuse (h : RefIs base S w r V C f d) : w.cell? ⟨r, 8, none⟩ = some (.int .i64 f) := (blk_cell h.1 8).trans rfl
theorem RefIs.down (h : RefIs base S w r V C f d) : w.cell? ⟨r, 9, none⟩ = some (.bool d) := (blk_cell h.1 9).trans rfl
theorem RefIs.free (h : RefIs base S w r V C f d) (j : Nat) : w.frozen? ⟨r, j, none⟩ = false := blk_frozen h.1 j
theorem RefIs.lt (h : RefIs base S w r V C f d) : r < w.heap.size := blk_lt h.1
theorem RefIs.below (h : RefIs base S w r V C f d) (hb : Below w.heap.size w w1) : RefIs base S w1 r V C f d :=
  ⟨blk_below h.1 hb, h.2.1, fun j hj => (h.2.2.1 j hj).below hb, h.2.2.2.1, fun j k hk => ⟨(h.2.2.2.2 j k hk).1, Nat.lt_of_lt_of_le (h.2.2.2.2 j k hk).2.1 hb.size, (h.2.2.2.2 j k hk).2.2⟩⟩
theorem RefIs.kept {K : Nat → Prop} (h : RefIs base S w r V C f d) (hk : Kept w w1 K) (hr : ¬ K r) (hs : ∀ j k, S j k → ¬ K k) : RefIs base S w1 r V C f d :=
  ⟨blk_kept h.1 hk hr, h.2.1, fun j hj => (h.2.2.1 j hj).step hk.1 (fun k ho hl => hk.2 k hl (hs j k ho)), h.2.2.2.1, fun j k hS => ⟨(h.2.2.2.2 j k hS).1, Nat.lt_of_lt_of_le (h.2.2.2.2 j k hS).2.1 hk.1, (h.2.2.2.2 j k hS).2.2⟩⟩
theorem RefIs.setFuse (h : RefIs base S w r V C f d) (x : Int) : RefIs base S (w.setCell ⟨r, 8, none⟩ (.int .i64 x)) r V C x d :=
  ⟨blk_put h.1 8 _ rfl, h.2.1, fun j hj => (h.2.2.1 j hj).far (fun k hk => (h.2.2.2.2 j k hk).2.2) _, h.2.2.2.1, fun j k hk => ⟨(h.2.2.2.2 j k hk).1, by have := (h.2.2.2.2 j k hk).2.1; simpa [World.setCell] using this, (h.2.2.2.2 j k hk).2.2⟩⟩
theorem RefIs.setDown (h : RefIs base S w r V C f d) (x : Bool) : RefIs base S (w.setCell ⟨r, 9, none⟩ (.bool x)) r V C f x :=
  ⟨blk_put h.1 9 _ rfl, h.2.1, fun j hj => (h.2.2.1 j hj).far (fun k hk => (h.2.2.2.2 j k hk).2.2) _, h.2.2.2.1, fun j k hk => ⟨(h.2.2.2.2 j k hk).1, by have := (h.2.2.2.2 j k hk).2.1; simpa [World.setCell] using this, (h.2.2.2.2 j k hk).2.2⟩⟩
/-- Slot j was written: its own block, or none, was written, and fresh blocks. -/
theorem RefIs.put {row : Option Nat} {j : Nat} {v : Value} {c : RCont} (h : RefIs base S w r V C f d) (hj : j < 8) (hg : w.grownBy w1 row) (hrow : ∀ k, row = some k → S j k) (hbw : base ≤ w.heap.size) (ho : ROwn w1 base (fun k => S j k ∨ w.heap.size ≤ k) v c) :
    RefIs base (fun i k => if i = j then S j k ∨ (w.heap.size ≤ k ∧ k < w1.heap.size) else S i k) (w1.setCell ⟨r, j, none⟩ v) r (upd V j v) (upd C j c) f d := by
  obtain ⟨h1, h2, h3, h4, h5⟩ := h
  have hlt := blk_lt h1
  have hr : ∀ k, row = some k → k ≠ r := fun k hk => (h5 j k (hrow k hk)).2.2
  have hX : w1.heap[r]? = some (.cells (rcellsOf V f d) 57 (0, 0)) := blk_grown h1 hg (fun e => hr r e.symm rfl)
  refine ⟨blk_put hX j v (rcells_set V f d hj v), h2, fun i hi => ?_, fun i i' k hk hk' => ?_, fun i k hk => ?_⟩
  · by_cases q : i = j
    · subst q
      rw [upd_same, upd_same]
      refine ROwn.far (ROwn.mono ho.bound (fun k hk => ?_)) (fun k hk => ?_) _
      · simp only [if_true]
        rcases hk.1 with hk1 | hk1
        · exact .inl hk1
        · exact .inr ⟨hk1, hk.2.2⟩
      · simp only [if_true] at hk
        rcases hk with hk | hk
        · exact (h5 i k hk).2.2
        · show k ≠ r; omega
    · rw [upd_ne _ _ q, upd_ne _ _ q]
      simp only [if_neg q]
      refine ROwn.far ((h3 i hi).step hg.size (fun k hk hl => hg.block k hl (fun e => ?_))) (fun k hk => (h5 i k hk).2.2) _
      exact q (h4 i j k hk (hrow k e.symm))
  · by_cases q : i = j <;> by_cases q' : i' = j
    · rw [q, q']
    · simp only [if_pos q, if_neg q'] at hk hk'
      rcases hk with hk | hk
      · rw [q]; exact h4 j i' k hk hk'
      · have := (h5 i' k hk').2.1; omega
    · simp only [if_neg q, if_pos q'] at hk hk'
      rcases hk' with hk' | hk'
      · rw [q']; exact h4 i j k hk hk'
      · have := (h5 i k hk).2.1; omega
    · simp only [if_neg q, if_neg q'] at hk hk'
      exact h4 i i' k hk hk'
  · have hsz : (w1.setCell ⟨r, j, none⟩ v).heap.size = w1.heap.size := by simp [World.setCell]
    rw [hsz]
    have hge := hg.size
    by_cases q : i = j
    · simp only [if_pos q] at hk
      rcases hk with hk | hk
      · have := h5 j k hk; omega
      · omega
    · simp only [if_neg q] at hk
      have := h5 i k hk; omega
/-- The same, told of a tape alone. -/
theorem RefU.put_ {row : Option Nat} {j : Nat} {v : Value} {c : RCont} (h : RefIs base S w r V C f d) (hU : U r) (hS : ∀ j k, S j k → U k) (hj : j < 8) (hg : w.grownBy w1 row) (hrow : ∀ k, row = some k → S j k) (hbw : base ≤ w.heap.size) (ho : ROwn w1 base (fun k => S j k ∨ w.heap.size ≤ k) v c) :
    RefU base (fun k => U k ∨ w.heap.size ≤ k) (w1.setCell ⟨r, j, none⟩ v) r (upd C j c) f d := by
  refine ⟨_, _, h.put hj hg hrow hbw ho, .inl hU, fun i k hk => ?_⟩
  by_cases q : i = j
  · simp only [if_pos q] at hk
    rcases hk with hk | hk
    · exact .inl (hS j k hk)
    · exact .inr hk.1
  · simp only [if_neg q] at hk
    exact .inl (hS i k hk)
end
theorem ROwn.blk {w : World} {base : Nat} {ok : Nat → Prop} {v : Value} {c : RCont} (h : ROwn w base ok v c) : ∀ k, v.ownBlock = some k → ok k := by
  cases c
  · exact OwnB.blk h
  · exact h.1
theorem RefU.mono {base : Nat} {U U' : Nat → Prop} {w : World} {r : Nat} {C : Nat → RCont} {f : Int} {d : Bool} (h : RefU base U w r C f d) (hu : ∀ k, U k → U' k) : RefU base U' w r C f d := by
  obtain ⟨S, V, h1, h2, h3⟩ := h
  exact ⟨S, V, h1, hu r h2, fun j k hk => hu k (h3 j k hk)⟩
/-- The power was asked. -/
def StepIs (base : Nat) (S : Nat → Nat → Prop) (r : Nat) (V : Nat → Value) (C : Nat → RCont) (x : Bool × Int × Bool) (w : World) (y : Ending) (w' : World) : Prop :=
  y = .returned (.bool x.1) ∧ RefIs base S w' r V C x.2.1 x.2.2 ∧ w.grownBy w' (some r)
theorem step_ok (base : Nat) (S : Nat → Nat → Prop) (r : Nat) (V : Nat → Value) (C : Nat → RCont) (f : Int) (d : Bool) (w : World) (h : RefIs base S w r V C f d) (hf : f ≤ 9223372036854775807) :
    Calls Try.prog 39 #[.pointer (some ⟨r, 0, none⟩)] w (StepIs base S r V C (powT f d) w) := by
  have h0 := h.fuse
  have h1 := h.down
  have f0 := h.free 8
  have f1 := h.free 9
  have hl := h.lt
  have HT := Lib.hid h
  clear h
  unfold powT
  by_cases q : f = 0
  · subst q
    rw [if_pos rfl]
    go_enter Try.func39, Try.ntmps39
    go_wp2
    go_ret
    exact ⟨rfl, HT.out.setDown true, grown_set _ _ _ _⟩
  · rw [if_neg q]
    have q' : (f == 0) = false := by simpa using q
    by_cases q2 : 0 < f
    · rw [if_pos q2]
      go_enter Try.func39, Try.ntmps39
      go_wp2
      go_ret
      exact ⟨rfl, HT.out.setFuse (f - 1), grown_set _ _ _ _⟩
    · rw [if_neg q2]
      have q3 : f ≤ 0 := by omega
      go_enter Try.func39, Try.ntmps39
      go_wp2
      go_ret
      exact ⟨rfl, HT.out, World.grownBy.refl _ _⟩
/-- A slot was appended to, or made anew. -/
theorem step_putr {base : Nat} {S : Nat → Nat → Prop} {U : Nat → Prop} {w wr w1 : World} {r j : Nat} {V : Nat → Value} {C : Nat → RCont} {f : Int} {d : Bool} {v : Value} {c : RCont} (h : RefIs base S wr r V C f d) (hU : U r) (hS : ∀ j k, S j k → U k ∨ w.heap.size ≤ k)
    (hj : j < 8) (hg : wr.grownBy w1 (V j).ownBlock) (ho : ROwn w1 base (fun k => S j k ∨ wr.heap.size ≤ k) v c) (hB : Below base w wr) (hbw : base ≤ w.heap.size) (hK : Kept w wr U) :
    RefU base (fun k => U k ∨ w.heap.size ≤ k) (w1.setCell ⟨r, j, none⟩ v) r (upd C j c) f d ∧ Below base w (w1.setCell ⟨r, j, none⟩ v) ∧ Kept w (w1.setCell ⟨r, j, none⟩ v) U := by
  have hrow : ∀ k, (V j).ownBlock = some k → S j k := ROwn.blk (h.2.2.1 j hj)
  have hsz := hK.1
  refine ⟨RefU.mono (RefU.put_ (U := fun k => U k ∨ w.heap.size ≤ k) h (.inl hU) hS hj hg hrow (Nat.le_trans hbw hsz) ho) (fun k hk => ?_), ?_, ?_⟩
  · rcases hk with hk | hk
    · exact hk
    · exact .inr (Nat.le_trans hsz hk)
  · exact Below.setCell (p := ⟨r, j, none⟩) (Below.grown hB hg (Nat.le_trans hbw hsz) (fun k hk => (h.2.2.2.2 j k (hrow k hk)).1)) h.2.1 _
  · exact (Kept.of_grown hg hK (fun k hk => hS j k (hrow k hk))).setCell (.inl hU) _
/-- The cells of a tape at a world where only a slot's own block was written. -/
theorem slot_atr {base : Nat} {S : Nat → Nat → Prop} {wr w1 : World} {r j : Nat} {V : Nat → Value} {C : Nat → RCont} {f : Int} {d : Bool} (h : RefIs base S wr r V C f d) (hj : j < 8) (hg : wr.grownBy w1 (V j).ownBlock) : w1.cell? ⟨r, j, none⟩ = some (V j) ∧ w1.frozen? ⟨r, j, none⟩ = false := by
  have hX : w1.heap[r]? = some (.cells (rcellsOf V f d) 57 (0, 0)) := blk_grown h.1 hg (fun e => (h.2.2.2.2 j r (ROwn.blk (h.2.2.1 j hj) r e.symm)).2.2 rfl)
  exact ⟨(blk_cell hX j).trans (rcells_at V f d hj), blk_frozen hX j⟩
theorem slot_bytesr {base : Nat} {S : Nat → Nat → Prop} {w : World} {r j : Nat} {V : Nat → Value} {C : Nat → RCont} {f : Int} {d : Bool} {l : List Int} (h : RefIs base S w r V C f d) (hj : j < 8) (hc : C j = .bytes l) : ∃ A c, V j = .slice A l.length c ∧ OwnB w base (S j) (.slice A l.length c) l := by
  have ho := h.2.2.1 j hj
  rw [hc] at ho
  have ho : OwnB w base (S j) (V j) l := ho
  obtain ⟨A, c, e⟩ := OwnB.slice ho
  rw [e] at ho
  exact ⟨A, c, e, ho⟩
theorem slot_stepsr {base : Nat} {S : Nat → Nat → Prop} {w : World} {r j : Nat} {V : Nat → Value} {C : Nat → RCont} {f : Int} {d : Bool} {l : List (S78)} (h : RefIs base S w r V C f d) (hj : j < 8) (hc : C j = .steps l) : ∃ A c, V j = .slice A l.length c ∧ Kd.R k78 78 w base (S j) (.slice A l.length c) l := by
  have ho := h.2.2.1 j hj
  rw [hc] at ho
  have ho : Kd.R k78 78 w base (S j) (V j) l := ho
  obtain ⟨A, c, e⟩ := Kd.R_slice ho
  rw [e] at ho
  exact ⟨A, c, e, ho⟩
theorem RefU.congr {base : Nat} {U : Nat → Prop} {w : World} {r : Nat} {C C' : Nat → RCont} {f : Int} {d : Bool} (h : RefU base U w r C f d) (hc : ∀ j, j < 8 → C' j = C j) : RefU base U w r C' f d := by
  obtain ⟨S, V, h1, h2, h3⟩ := h
  exact ⟨S, V, ⟨h1.1, h1.2.1, fun j hj => by rw [hc j hj]; exact h1.2.2.1 j hj, h1.2.2.2⟩, h2, h3⟩
theorem RefU.bound {base : Nat} {U : Nat → Prop} {w : World} {r : Nat} {C : Nat → RCont} {f : Int} {d : Bool} (h : RefU base U w r C f d) : RefU base (fun k => U k ∧ k < w.heap.size) w r C f d := by
  obtain ⟨S, V, h1, h2, h3⟩ := h
  exact ⟨S, V, h1, ⟨h2, h1.lt⟩, fun j k hk => ⟨h3 j k hk, (h1.2.2.2.2 j k hk).2.1⟩⟩
theorem RefU.step {base : Nat} {U : Nat → Prop} {w w1 : World} {r : Nat} {C : Nat → RCont} {f : Int} {d : Bool} (h : RefU base U w r C f d) (hs : w.heap.size ≤ w1.heap.size) (hm : ∀ k, U k → k < w.heap.size → w1.heap[k]? = w.heap[k]?) : RefU base U w1 r C f d := by
  obtain ⟨S, V, h1, h2, h3⟩ := h
  exact ⟨S, V, h1.kept (K := fun k => ¬ U k) ⟨hs, fun i hi hn => hm i (Classical.not_not.1 hn) hi⟩ (fun h => h h2) (fun j k hk h => h (h3 j k hk)), h2, h3⟩
theorem RefU.lower {base base' : Nat} {U : Nat → Prop} {w : World} {r : Nat} {C : Nat → RCont} {f : Int} {d : Bool} (h : RefU base U w r C f d) (hb : base' ≤ base) : RefU base' U w r C f d := by
  obtain ⟨S, V, ⟨h1, h2, h3, h4, h5⟩, hU, hS⟩ := h
  refine ⟨S, V, ⟨h1, Nat.le_trans hb h2, fun j hj => ?_, h4, fun j k hk => ⟨Nat.le_trans hb (h5 j k hk).1, (h5 j k hk).2⟩⟩, hU, hS⟩
  have := h3 j hj
  revert this
  cases C j with
  | bytes l =>
    intro h
    rcases h with h | ⟨A, a1, a2, a3⟩
    · exact .inl (Kd.R_lower h hb)
    · exact .inr ⟨A, a1, fun k hk => ⟨(a2 k hk).1, Nat.le_trans hb (a2 k hk).2.1, (a2 k hk).2.2⟩, a3⟩
  | steps l => exact fun h => Kd.R_lower h hb
theorem info78 : (Try.prog.info? 78).map (fun i => (i.zero, i.size, i.bytes)) = some (some (.agg #[.int .u8 0, .int .i64 0]), 2, 16) := by kernel_rfl
/-- A step, as the reference has it. -/
def cv (p : Bool × Int) : S78 := if p.1 = true then ⟨0, p.2⟩ else ⟨p.2, -1⟩
theorem after_l (o : List (Bool × Int)) (l0 : List Int) (m : Nat) (hm : m ≤ o.length) (hb : m ≤ 100000000) : ∀ (k i : Nat) (b : List Int), i ≤ m → m - i < k → okS ((o.take m).drop i) b.length → b.length ≤ 2000000 + i → juratref10_File_After.l0 k m b i l0 (o.map cv) = some (crashB ((o.take m).drop i) b)
  | 0, i, _, _, hk, _, _ => by omega
  | k + 1, i, b, hi, hk, hok, hl => by
    unfold juratref10_File_After.l0
    by_cases q : i < m
    · have hio : i < o.length := by omega
      have hd : (o.take m).drop i = o[i] :: (o.take m).drop (i + 1) := by
        rw [List.drop_eq_getElem_cons (by rw [List.length_take]; omega), List.getElem_take]
      have he : rd_T78 (o.map cv) (i : Int) = cv o[i] := by
        show (o.map cv).getD i z78 = _
        rw [List.getD, List.getElem?_map, List.getElem?_eq_getElem hio]
        rfl
      rw [if_pos (by omega), if_pos (by omega), if_pos (by rw [List.length_map]; omega), he, show wrap64 ((i : Int) + 1) = ((i + 1 : Nat) : Int) by unfold wrap64; omega]
      rw [hd] at hok ⊢
      rcases ho : o[i] with ⟨c, n⟩
      rw [ho] at hok
      rcases c with _ | _
      · have hc : cv (false, n) = ⟨n, -1⟩ := rfl
        rw [hc, if_pos (by show (-1 : Int) < 0; omega), if_pos (by omega), after_l o l0 m hm hb k (i + 1) (b ++ [n]) (by omega) (by omega) (by rw [List.length_append]; exact hok.2.2) (by simp; omega)]
        rfl
      · have hc : cv (true, n) = ⟨0, n⟩ := rfl
        obtain ⟨k1, k2, k3⟩ := hok
        have hlt : (b.take n.toNat).length = n.toNat := by rw [List.length_take]; omega
        rw [hc, if_neg (by show ¬ n < 0; omega), if_pos (by show 0 ≤ n; omega), if_pos (by show n ≤ (b.length : Int); omega)]
        show juratref10_File_After.l0 k m (b.take n.toNat) _ l0 (o.map cv) = _
        rw [after_l o l0 m hm hb k (i + 1) (b.take n.toNat) (by omega) (by omega) (by rw [hlt]; exact k3) (by omega)]
        rfl
    · rw [if_neg (by omega), List.drop_of_length_le (by rw [List.length_take]; omega)]
      rfl
theorem after_f (o : List (Bool × Int)) (l0 : List Int) (m : Nat) (hm : m ≤ o.length) (hb : m ≤ 100000000) (hok : okS o l0.length) (hl : l0.length ≤ 2000000) : juratref10_File_After.f (m + 1) l0 (o.map cv) m = some (crashB (o.take m) l0) := by
  show (if ([] : List Int).length + l0.length < 140737488355328 then juratref10_File_After.l0 (m + 1) m ([] ++ l0) 0 l0 (o.map cv) else none) = _
  rw [if_pos (by simp; omega)]
  have := after_l o l0 m hm hb (m + 1) 0 l0 (by omega) (by omega) (by rw [List.drop_zero]; exact okS_take o m _ hok) (by omega)
  simpa using this
theorem after_t (A0 A1 : Option Addr) (n0 c0 n1 c1 : Nat) (l0 : List Int) (ro : List S78) (o : List (Bool × Int)) (m : Nat) (w : World) (e0 : n0 = l0.length) (e1 : n1 = ro.length) (h0 : Kd.C (Kd.int .u8) w A0 l0.length l0) (hc0 : l0.length ≤ c0) (h1 : Kd.C k78 w A1 ro.length ro) (hc1 : ro.length ≤ c1) (hro : ro = o.map cv) (hm : m ≤ o.length) (hb : m ≤ 100000000) (hok : okS o l0.length) (hl : l0.length ≤ 2000000) :
    Calls Try.prog 31 #[.agg #[.slice A0 n0 c0, .slice A1 n1 c1], .int .i64 m] w fun e w' => ∃ A c, e = .returned (.slice A (crashB (o.take m) l0).length c) ∧ Kd.R (Kd.int .u8) 5 w' w.heap.size (fun _ => True) (.slice A (crashB (o.take m) l0).length c) (crashB (o.take m) l0) ∧ Below w.heap.size w w' := by
  subst e0; subst e1; subst hro
  refine (juratref10_File_After.calls (m + 1) A0 c0 l0 A1 c1 (o.map cv) m _ w h0 hc0 h1 hc1 (after_f o l0 m hm hb hok hl)).mono fun e w' hp => ?_
  obtain ⟨v, he, hR, hB⟩ := hp
  obtain ⟨A, c, rfl⟩ := Kd.R_slice hR
  exact ⟨A, c, he, hR, hB⟩
/-- What a fresh tape's slots lead to. -/
def rfresh : Nat → RCont := fun j => if j % 2 = 1 then .steps [] else .bytes []
theorem rnew_ok (base : Nat) (w : World) (hb : base ≤ w.heap.size) : Calls Try.prog 23 #[] w fun e w' => ∃ r, e = .returned (.pointer (some ⟨r, 0, none⟩)) ∧ RefU base (fun k => w.heap.size ≤ k) w' r rfresh (-1) false ∧ Below w.heap.size w w' := by
  go_enter Try.func23, Try.ntmps23
  go_wp2
  go_ret
  refine ⟨_, rfl, ⟨fun _ _ => False, fun _ => .slice none 0 0, ⟨blk_new w _, hb, fun j hj => ?_, fun _ _ _ h => h.elim, fun _ _ h => h.elim⟩, Nat.le_refl _, fun _ _ h => h.elim⟩, below_alloc (Below.refl _ _) _⟩
  unfold rfresh
  split
  · exact Kd.R_nil _ _ _ _ _
  · exact .inl (Kd.R_nil _ _ _ _ _)
end Go.Proofs.Ytbccjamcfodeiaa.RTape
