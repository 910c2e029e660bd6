/- PROVED: the power of a tape, and what a slot's writing comes to. No condition beyond what each line says. -/
import Derived.Test.YtbccjamcfodeiaaTape
import Derived.ArgAppend
import Derived.Test.YtbccjamcfodeiaaLRead
import Derived.Test.YtbccjamcfodeiaaWApart
import Derived.Test.YtbccjamcfodeiaaWKept
import Derived.WalkKit
import Derived.WalkSpells
import Derived.WalkLawsBesides
import Derived.WalkMore
import Derived.Outline
import Derived.Lib.Hide
import Derived.BigQuiet
import Derived.Deep.QuietTactic
import Derived.Deep.RegionHeld3
import Derived.Deep.RegionLaw
import Derived.Deep.LoopGhost
import Derived.Deep.DeepCutAuto
namespace Go.Proofs.Ytbccjamcfodeiaa.Tape2
open Go.RowKit Go.Proofs.Ytbccjamcfodeiaa.PTapePlays Go.Proofs.YtbccjamcfodeiaaW.PrintWords Go.Proofs.YtbccjamcfodeiaaW.PrintLast Go.Proofs.YtbccjamcfodeiaaW.PrintMore
open Go.Proofs.Ytbccjamcfodeiaa.Tape
set_option linter.unusedSimpArgs false
set_option linter.unusedVariables false
theorem world_gen {K : World → Prop} {W : World} (P : World → Prop) (h : P W) (hk : ∀ w, P w → K w) : K W := hk W h
theorem Own.blk {w : World} {base : Nat} {ok : Nat → Prop} {v : Value} {c : Cont} (h : Own w base ok v c) : ∀ k, v.ownBlock = some k → ok k := by
  cases c
  · exact OwnB.blk h
  · exact h.1
theorem TapeU.mono {base : Nat} {U U' : Nat → Prop} {w : World} {r : Nat} {C : Nat → Cont} {f : Int} {d : Bool} (h : TapeU base U w r C f d) (hu : ∀ k, U k → U' k) : TapeU base U' w r C f d := by
  obtain ⟨S, V, h1, h2, h3⟩ := h
  exact ⟨S, V, h1, hu r h2, fun j k hk => hu k (h3 j k hk)⟩
/-- What a step needs of the power: whether it is made, the fuse and the state behind. -/
def powT (f : Int) (d : Bool) : Bool × Int × Bool := if f = 0 then (false, 0, true) else if 0 < f then (true, f - 1, d) else (true, f, d)
/-- The power was asked. -/
def TakeIs (base : Nat) (S : Nat → Nat → Prop) (r : Nat) (V : Nat → Value) (C : Nat → Cont) (x : Bool × Int × Bool) (w : World) (y : Ending) (w' : World) : Prop :=
  y = .returned (.bool x.1) ∧ TapeIs base S w' r V C x.2.1 x.2.2 ∧ w.grownBy w' (some r)
theorem grown_set (w : World) (r j : Nat) (u : Value) : w.grownBy (w.setCell ⟨r, j, none⟩ u) (some r) :=
  ⟨rfl, rfl, rfl, by simp [World.setCell], fun k _ hne => Below.heap_setCell w ⟨r, j, none⟩ u k (fun e => hne (by rw [e]))⟩
theorem take_ok (base : Nat) (S : Nat → Nat → Prop) (r : Nat) (V : Nat → Value) (C : Nat → Cont) (f : Int) (d : Bool) (w : World) (h : TapeIs base S w r V C f d) (hf : f ≤ 9223372036854775807) :
    Calls Try.prog 30 #[.pointer (some ⟨r, 0, none⟩)] w (TakeIs base S r V C (powT f d) w) := by
  have h0 := h.fuse
  have h1 := h.down
  have f0 := h.free 12
  have f1 := h.free 13
  have hl := h.lt
  have HT := Lib.hid h
  clear h
  unfold powT
  by_cases q : f = 0
  · subst q
    rw [if_pos rfl]
    go_enter Try.func30, Try.ntmps30
    go_wp2
    go_ret
    exact ⟨rfl, HT.out.setDown true, grown_set _ _ _ _⟩
  · rw [if_neg q]
    have q' : (f == 0) = false := by simpa using q
    by_cases q2 : 0 < f
    · rw [if_pos q2]
      go_enter Try.func30, Try.ntmps30
      go_wp2
      go_ret
      exact ⟨rfl, HT.out.setFuse (f - 1), grown_set _ _ _ _⟩
    · rw [if_neg q2]
      have q3 : f ≤ 0 := by omega
      go_enter Try.func30, Try.ntmps30
      go_wp2
      go_ret
      exact ⟨rfl, HT.out, World.grownBy.refl _ _⟩
/-- A slot was appended to, or made anew. -/
theorem step_put {base : Nat} {S : Nat → Nat → Prop} {U : Nat → Prop} {w wr w1 : World} {r j : Nat} {V : Nat → Value} {C : Nat → Cont} {f : Int} {d : Bool} {v : Value} {c : Cont} (h : TapeIs base S wr r V C f d) (hU : U r) (hS : ∀ j k, S j k → U k ∨ w.heap.size ≤ k)
    (hj : j < 12) (hg : wr.grownBy w1 (V j).ownBlock) (ho : Own w1 base (fun k => S j k ∨ wr.heap.size ≤ k) v c) (hB : Below base w wr) (hbw : base ≤ w.heap.size) (hK : Kept w wr U) :
    TapeU base (fun k => U k ∨ w.heap.size ≤ k) (w1.setCell ⟨r, j, none⟩ v) r (upd C j c) f d ∧ Below base w (w1.setCell ⟨r, j, none⟩ v) ∧ Kept w (w1.setCell ⟨r, j, none⟩ v) U := by
  have hrow : ∀ k, (V j).ownBlock = some k → S j k := Own.blk (h.2.2.1 j hj)
  have hsz := hK.1
  refine ⟨TapeU.mono (TapeU.put_ (U := fun k => U k ∨ w.heap.size ≤ k) h (.inl hU) hS hj hg hrow (Nat.le_trans hbw hsz) ho) (fun k hk => ?_), ?_, ?_⟩
  · rcases hk with hk | hk
    · exact hk
    · exact .inr (Nat.le_trans hsz hk)
  · exact Below.setCell (p := ⟨r, j, none⟩) (Below.grown hB hg (Nat.le_trans hbw hsz) (fun k hk => (h.2.2.2.2 j k (hrow k hk)).1)) h.2.1 _
  · exact (Kept.of_grown hg hK (fun k hk => hS j k (hrow k hk))).setCell (.inl hU) _
/-- The cells of a tape at a world where only a slot's own block was written. -/
theorem slot_at {base : Nat} {S : Nat → Nat → Prop} {wr w1 : World} {r j : Nat} {V : Nat → Value} {C : Nat → Cont} {f : Int} {d : Bool} (h : TapeIs base S wr r V C f d) (hj : j < 12) (hg : wr.grownBy w1 (V j).ownBlock) : w1.cell? ⟨r, j, none⟩ = some (V j) ∧ w1.frozen? ⟨r, j, none⟩ = false := by
  have hX : w1.heap[r]? = some (.cells (cellsOf V f d) 66 (0, 0)) := blk_grown h.1 hg (fun e => (h.2.2.2.2 j r (Own.blk (h.2.2.1 j hj) r e.symm)).2.2 rfl)
  exact ⟨(blk_cell hX j).trans (cells_at V f d hj), blk_frozen hX j⟩
theorem info71 : (Try.prog.info? 71).map (fun i => (i.zero, i.size, i.bytes)) = some (some (.agg #[.bool false, .int .i64 0]), 2, 16) := by kernel_rfl
/-- A byte is appended to bytes of one's own. -/
theorem append_run {w0 W : World} (base : Nat) (t ty : TypeId) (ht : Try.prog.underlying t = some (.slice 5)) {v : Value} {xs : List Int} {x : Int} {ok : Nat → Prop} (hfresh : ∀ k, W.heap.size ≤ k → ok k) (HO : OwnB W base ok v xs) (HB : Below base w0 W) (hbase : base ≤ W.heap.size) (hl : xs.length + 1 ≤ 140737488355328) :
    ∃ v1 w1, (Builtin.append_ #[t, t] ty #[v, .slice (some ⟨W.heap.size, 0, none⟩) 1 1]).run Try.prog (W.alloc (.cells [Value.int .u8 x].toArray 5)) = .ok v1 w1 ∧ Kd.R (Kd.int .u8) 5 w1 base ok v1 (xs ++ [x]) ∧ Below base w0 w1 ∧ W.grownBy w1 v.ownBlock := by
  obtain ⟨i0, hi, hzz⟩ := Option.map_eq_some_iff.1 info5
  simp only [Prod.mk.injEq] at hzz
  obtain ⟨hz0, hz1, hz2⟩ := hzz
  have hnews : ∀ (j : Nat) (u : Value), [Value.int .u8 x][j]? = some u → (W.alloc (.cells [Value.int .u8 x].toArray 5)).cell? ((⟨W.heap.size, 0, none⟩ : Addr).add j) = some u := by
    simpa using World.news_of_block (cs := [Value.int .u8 x].toArray) (t := 5) (fr := (0, 0)) (heap_alloc_new W (.cells [Value.int .u8 x].toArray 5))
  have own2 : ∀ (ok : Nat → Prop), (∀ k, v.ownBlock = some k → ok k) → Kd.R (Kd.int .u8) 5 W base ok v xs → (∀ k, W.heap.size ≤ k → ok k) → ∃ v1 w1, (Builtin.append_ #[t, t] ty #[v, .slice (some ⟨W.heap.size, 0, none⟩) 1 1]).run Try.prog (W.alloc (.cells [Value.int .u8 x].toArray 5)) = .ok v1 w1 ∧ Kd.R (Kd.int .u8) 5 w1 base ok v1 (xs ++ [x]) ∧ Below base w0 w1 ∧ W.grownBy w1 v.ownBlock := by
    intro ok hok h hfresh
    obtain ⟨h0, inner, hown, hr⟩ := h
    have hw : (W.alloc (.cells [Value.int .u8 x].toArray 5)).ownsRow base 5 1 v xs.length inner := own_move hown (fun k hk => Below.heap_alloc W _ k (own_lt hown k hk))
    obtain ⟨v', w', hrun, ho', hg, _, hat⟩ := run_append_own_at (P := Try.prog) (W.alloc (.cells [Value.int .u8 x].toArray 5)) base t ty 5 i0 (.int .u8 0) 1 1 ht hi hz0 hz1 hz2 rfl (by decide) v xs.length inner hw ⟨W.heap.size, 0, none⟩ 1 1 [.int .u8 x] rfl hnews (by simp [Value.oneCell']) (by simp only [maxLen]; omega) (by omega) (by simp; omega)
    have hg2 : W.grownBy w' v.ownBlock := World.grownBy.trans (World.grownBy_alloc W _ _) hg
    have hat2 : v'.ownBlock = v.ownBlock ∨ ∃ b, v'.ownBlock = some b ∧ W.heap.size ≤ b := by
      rcases hat with hat | hat
      · exact .inl hat
      · exact .inr ⟨_, hat, by rw [World.size_alloc]; omega⟩
    exact ⟨v', w', hrun, Kd.R_appended (d := Kd.int .u8) (okp := fun _ => False) (p := x) (cs := [.int .u8 x]) h0 hr rfl (fun _ h => h.elim) hfresh ho' hg2 hat2, HB.grown hg2 hbase (own_base hown), hg2⟩
  rcases HO with h | ⟨A, h1, h2, h3⟩
  · exact own2 ok h.1 h hfresh
  · cases A with
    | none =>
      have hx : xs = [] := by
        by_cases q : 0 < xs.length
        · obtain ⟨ad, e, _⟩ := h3.2.2 q
          cases e
        · exact List.eq_nil_of_length_eq_zero (by omega)
      subst hx
      subst h1
      exact own2 ok (fun k hk => (h2 k hk).1) (Kd.R_nil _ _ _ _ _) hfresh
    | some b =>
      have hcells : ∀ (j : Nat) (u : Value), (encs (Value.int .u8) xs)[j]? = some u → (W.alloc (.cells [Value.int .u8 x].toArray 5)).cell? (b.add j) = some u := by
        intro j u hu
        have hj : j < xs.length := by
          have := (List.getElem?_eq_some_iff.1 hu).1
          rwa [encs_length] at this
        obtain ⟨ad, e, hc⟩ := (Kd.reads_of_C (d := (0 : Int)) h3).2.2 (by omega)
        injection e with e
        subst e
        have h5 := hc j hj
        rw [encs_get (d := (0 : Int)) xs j hj] at hu
        injection hu with hu
        rw [← hu]
        refine (World.cell?_of_block ?_).trans h5
        rw [add_block]
        exact Below.heap_alloc W _ _ (h2 b.block (by rw [h1]; rfl)).2.2
      obtain ⟨v', w', hr, ho, hg⟩ := run_append_arg_grows (P := Try.prog) (w := W.alloc (.cells [Value.int .u8 x].toArray 5)) t ty 5 i0 (.int .u8 0) 1 1 ht hi hz0 hz1 hz2 rfl (by decide) b xs.length xs.length (encs (Value.int .u8) xs) (by rw [encs_length]; omega) hcells ⟨W.heap.size, 0, none⟩ 1 1 [.int .u8 x] rfl hnews (by omega) (by simp only [maxLen]; omega) (by omega)
      have hg2 : W.grownBy w' v.ownBlock := World.grownBy.trans (World.grownBy_alloc W _ _) ⟨hg.os, hg.tape, hg.output, hg.size, fun k hk _ => hg.block k hk (by simp)⟩
      have hR : Kd.R (Kd.int .u8) 5 w' W.heap.size ok v' (xs ++ [x]) := by
        have ho2 : w'.ownsRow (W.alloc (.cells [Value.int .u8 x].toArray 5)).heap.size 5 1 v' (xs ++ [x]).length (encs (Value.int .u8) (xs ++ [x])) := by
          rw [List.length_append, encs_append]
          exact ho
        have ho3 := own_weaken ho2 (show W.heap.size ≤ (W.alloc (.cells [Value.int .u8 x].toArray 5)).heap.size by rw [World.size_alloc]; omega)
        exact Kd.R_of_own ho3 (fun k hk => hfresh k (own_base ho3 k hk))
      exact ⟨v', w', by rw [h1]; exact hr, Kd.R_lower hR hbase, HB.grown hg2 hbase (fun k hk => (h2 k hk).2.1), hg2⟩
theorem B_append {ops : Array Oper} {rest : List Oper} {o : Oper} {a : Act} {Q : Exit → Act → World → Prop} {w0 W : World} (base : Nat) (hgd : o.guard = none) (s x : Operand) (t : TypeId)
    (ho : o.op = .call { callee := .builtin .append, args := #[s, x], argTypes := #[t, t] }) (ht : Try.prog.underlying t = some (.slice 5))
    (v : Value) (xs : List Int) (p : Int) (ok : Nat → Prop) (hs : a.eval s = v) (hx : a.eval x = .slice (some ⟨W.heap.size, 0, none⟩) 1 1) (hfresh : ∀ k, W.heap.size ≤ k → ok k)
    (HO : OwnB W base ok v xs) (HB : Below base w0 W) (hbase : base ≤ W.heap.size) (hl : xs.length + 1 ≤ 140737488355328)
    (h : ∀ v1 w1, Kd.R (Kd.int .u8) 5 w1 base ok v1 (xs ++ [p]) → Below base w0 w1 → W.grownBy w1 v.ownBlock → wpList Try.prog ops Q rest (a.put o.dst v1) w1) :
    wpList Try.prog ops Q (o :: rest) a (W.alloc (.cells [Value.int .u8 p].toArray 5)) := by
  obtain ⟨v1, w1, hr, h1, h2, h3⟩ := append_run (x := p) base t o.type ht hfresh HO HB hbase hl
  refine wpList_plain hgd fun K hK => ?_
  unfold Oper.wp execOp
  simp only [ho, resolve, invoke, builtin, Sem.run_bind, Sem.run_pure, Result.andThen_ok, List.map_toArray, List.map_cons, List.map_nil, hs, hx]
  rw [hr]
  exact hK _ _ (h v1 w1 h1 h2 h3)
/-- Bytes are appended, one by one. -/
def appT : List Int → List Int → List (Bool × Int) → Int → Bool → Int × List Int × List (Bool × Int) × Int × Bool
  | [], now, opn, f, d => (0, now, opn, f, d)
  | c :: bs, now, opn, f, d => if (powT f d).1 = true then appT bs (now ++ [c]) (opn ++ [(false, c)]) (powT f d).2.1 (powT f d).2.2 else (100, now, opn, (powT f d).2.1, (powT f d).2.2)
/-- All but the bytes and the steps of file i are as they were. -/
def Else (C C' : Nat → Cont) (i : Nat) (now : List Int) (opn : List (Bool × Int)) : Prop := C' (i * 3 + 1) = .bytes now ∧ C' (i * 3 + 2) = .steps opn ∧ ∀ j, j ≠ i * 3 + 1 → j ≠ i * 3 + 2 → C' j = C j
/-- What Append answers, and the tape behind it. -/
def AppIs (base : Nat) (U : Nat → Prop) (r i : Nat) (C : Nat → Cont) (x : Int × List Int × List (Bool × Int) × Int × Bool) (w : World) (y : Ending) (w' : World) : Prop :=
  y = .returned (.int .i64 x.1) ∧ ∃ C', TapeU base (fun k => U k ∨ w.heap.size ≤ k) w' r C' x.2.2.2.1 x.2.2.2.2 ∧ Else C C' i x.2.1 x.2.2.1 ∧ Below base w w' ∧ Kept w w' U
end Go.Proofs.Ytbccjamcfodeiaa.Tape2
