/- PROVED: New, Open and Read of a tape. No condition beyond what each line says. -/
import Derived.Test.YtbccjamcfodeiaaTape3
import Derived.Laws.CopyRow
import Derived.Laws.Tables
import Derived.Laws.Rows
import Derived.Test.YtbccjamcfodeiaaLRead
import Derived.Test.YtbccjamcfodeiaaWApart
import Derived.Test.YtbccjamcfodeiaaWKept
import Derived.WalkKit
import Derived.WalkSpells
import Derived.WalkLawsBesides
import Derived.WalkMore
import Derived.Outline
import Derived.Lib.Hide
import Derived.BigQuiet
import Derived.Deep.QuietTactic
import Derived.Deep.RegionHeld3
import Derived.Deep.RegionLaw
import Derived.Deep.LoopGhost
import Derived.Deep.DeepCutAuto
namespace Go.Proofs.Ytbccjamcfodeiaa.Tape4
open Go.RowKit Go.Proofs.Ytbccjamcfodeiaa.PTapePlays Go.Proofs.YtbccjamcfodeiaaW.PrintWords Go.Proofs.YtbccjamcfodeiaaW.PrintLast Go.Proofs.YtbccjamcfodeiaaW.PrintMore
open Go.Proofs.Ytbccjamcfodeiaa.Tape Go.Proofs.Ytbccjamcfodeiaa.Tape2 Go.Proofs.Ytbccjamcfodeiaa.Tape3
set_option linter.unusedSimpArgs false
set_option linter.unusedVariables false
theorem cell_b {w w1 : World} (h : Below w.heap.size w w1) {a : Addr} {v : Value} (hc : w.cell? a = some v) : w1.cell? a = some v := (World.cell?_of_block (h.block _ (World.block_lt_of_cell? w a hc))).trans hc
/-- What a fresh tape's slots lead to. -/
def fresh : Nat → Cont := fun j => if j % 3 = 2 then .steps [] else .bytes []
theorem new_ok (base : Nat) (w : World) (hb : base ≤ w.heap.size) : Calls Try.prog 12 #[] w fun e w' => ∃ r, e = .returned (.pointer (some ⟨r, 0, none⟩)) ∧ TapeU base (fun k => w.heap.size ≤ k) w' r fresh (-1) false ∧ Below w.heap.size w w' := by
  go_enter Try.func12, Try.ntmps12
  go_wp2
  go_ret
  refine ⟨_, rfl, ⟨fun _ _ => False, fun _ => .slice none 0 0, ⟨blk_new w _, hb, fun j hj => ?_, fun _ _ _ h => h.elim, fun _ _ h => h.elim⟩, Nat.le_refl _, fun _ _ h => h.elim⟩, below_alloc (Below.refl _ _) _⟩
  unfold fresh
  split
  · exact Kd.R_nil _ _ _ _ _
  · exact .inl (Kd.R_nil _ _ _ _ _)
theorem open_ok (base : Nat) (U : Nat → Prop) (r i : Nat) (C : Nat → Cont) (opn : List (Bool × Int)) (f : Int) (d : Bool) (w : World) (h : TapeU base U w r C f d) (hi : i < 4) (hc2 : C (i * 3 + 2) = .steps opn) :
    Calls Try.prog 21 #[.pointer (some ⟨r, 0, none⟩), .int .i64 i] w fun e w' => e = .returned (.int .i64 opn.length) ∧ w = w' := by
  obtain ⟨S, V, hT, hU, hS⟩ := h
  obtain ⟨A1, c1, e1, hR1⟩ := slot_steps hT (j := i * 3 + 2) (by omega) hc2
  have x1 := hT.cell (j := i * 3 + 2) (by omega)
  rw [e1] at x1
  clear hT hU hS hc2 e1 hR1
  go_enter Try.func21, Try.ntmps21
  go_wp2_with (first | ((with_reducible go_at_call 29); go_must (refine (at_ok r i _ hi).mono ?_; rintro e w' ⟨rfl, rfl⟩)))
  go_ret
  exact ⟨rfl, rfl⟩
set_option maxHeartbeats 4000000 in
set_option maxRecDepth 100000 in
theorem read_ok (base : Nat) (U : Nat → Prop) (r i : Nat) (C : Nat → Cont) (now : List Int) (f : Int) (w : World) (h : TapeU base U w r C f false) (hi : i < 4) (hc1 : C (i * 3 + 1) = .bytes now) (hn : now.length ≤ 1048576) :
    Calls Try.prog 14 #[.pointer (some ⟨r, 0, none⟩), .int .i64 i] w fun e w' => ∃ v, e = .returned (.tuple #[v, .int .i64 0]) ∧ Kd.R (Kd.int .u8) 5 w' w.heap.size (fun _ => True) v now ∧ Below w.heap.size w w' := by
  obtain ⟨S, V, hT, hU, hS⟩ := h
  obtain ⟨A1, c1, e1, hR1⟩ := slot_bytes hT (j := i * 3 + 1) (by omega) hc1
  have x1 := hT.cell (j := i * 3 + 1) (by omega)
  rw [e1] at x1
  have x13 := hT.down
  have HC1 := Lib.hid (OwnB.reads' hR1)
  have HX1 := Lib.hid x1
  clear hT hU hS hc1 e1 hR1
  go_enter Try.func14, Try.ntmps14
  go_wp2_with (first | ((with_reducible go_at_call 29); go_must (refine (at_ok r i _ hi).mono ?_; rintro e w' ⟨rfl, rfl⟩)) | ((with_reducible refine gate_dst (N := 23) rfl ?_); refine Kd.R_lit (Kd.int .u8) _ 5 ?hg (N := 23) ?hd (xs := ([] : List (Int))) (inner := []) (ok := fun _ => True) (okp := fun _ => True) ?hr ?hp (fun _ hk => hk) trivial (Below.refl _ _) (Nat.le_refl _) (by simp) ?_; (case hd => rfl); (case hg => rfl); (case hr => first | (go_simp; done) | (go_simp; rfl)); (case hp => exact (Reps.none _ _)); intro vL wL hl hb hg_ hn_; clear hg_ hn_; have HL := Lib.hid hl; have HBL := Lib.hid hb; have x1b := cell_b hb HX1.out; clear x1 hl hb) | ((with_reducible refine gate_builtin (b := .append) (xs := #[.tmp 23, .tmp 27]) rfl ?_); at_builtin; go_must (refine Kd.R_append_rows (Kd.int .u8) (w0 := w) (w.heap.size) rfl (.tmp 23) (.tmp 27) 28 5 (.int .u8 0) 1 rfl Try.underlying28 info5 rfl (by decide) (by omega) (vL) ([]) (now) _ _ _ (fun _ => True) (fun _ => False) rfl rfl (HL.out) (Kd.C_below HC1.out.2.2 HBL.out) (fun x cs h => h) (fun _ h => h.elim) (fun _ _ => trivial) HBL.out HBL.out.size ?aL ?_; (case aL => (simp; omega)); intro vA wA ho hb hg hat; have HT := Lib.hid ho; have HBT := Lib.hid hb; clear ho hb hg hat)))
  go_ret2
  exact ⟨_, rfl, by have := HT.out; simpa using this, HBT.out⟩
theorem zeros_steps (n : Nat) : (Builtin.zeroCells #[.bool false, .int .i64 0] n).toList.length = n * 2 ∧ ∀ v ∈ (Builtin.zeroCells #[.bool false, .int .i64 0] n).toList, v.oneCell' = true := by
  refine ⟨by simp [Builtin.zeroCells], fun v hv => ?_⟩
  simp only [Builtin.zeroCells, Array.toList_map, List.mem_map] at hv
  obtain ⟨i, _, rfl⟩ := hv
  have : i % 2 = 0 ∨ i % 2 = 1 := by omega
  show ((#[Value.bool false, Value.int .i64 0] : Array Value)[i % 2]!).oneCell' = true
  rcases this with h | h <;> rw [h] <;> rfl
/-- clear of steps: the row stays one's own, and none of it counts. -/
theorem run_clear_steps {w : World} {base n c : Nat} {ok : Nat → Prop} {A : Option Addr} {l : List (Bool × Int)} (h : Kd.R kS 71 w base ok (.slice A n c) l) (ty : TypeId) :
    ∃ w1, (Builtin.clear_ #[61] ty #[.slice A n c]).run Try.prog w = .ok (.tuple #[]) w1 ∧ w.grownBy w1 (Value.slice A n c).ownBlock ∧ Kd.R kS 71 w1 base ok (.slice A 0 c) [] := by
  have hz : ∀ w, (zeroValue 71).run Try.prog w = .ok (.agg #[.bool false, .int .i64 0]) w := fun w => rfl
  rcases n with _ | m
  · have h0 := Kd.R_take (m := 0) h (Nat.zero_le _)
    refine ⟨w, ?_, World.grownBy.refl _ _, by simpa using h0⟩
    cases A with
    | none => simp [Builtin.clear_, run_underlying Try.underlying61]
    | some a => simp [Builtin.clear_, run_underlying Try.underlying61]
  · obtain ⟨h0, inner, ⟨hl, ho⟩, hr⟩ := h
    rcases ho with ⟨hv, _⟩ | ⟨g, cap, cur, hv, hbg, hX, hnc, hcm, hcs, htk⟩
    · simp at hv
    · simp only [Value.slice.injEq] at hv
      obtain ⟨rfl, hn, rfl⟩ := hv
      obtain ⟨z1, z2⟩ := zeros_steps (m + 1)
      have hcs' : cur.size = c * 2 := hcs
      have hst := run_storeCells_at (P := Try.prog) g 0 71 (Builtin.zeroCells #[.bool false, .int .i64 0] (m + 1)).toList 0 cur w hX (by rw [z1]; omega) z2
      obtain ⟨R, hR⟩ : ∃ R, (cur.toList.take (0 + 0) ++ (Builtin.zeroCells #[.bool false, .int .i64 0] (m + 1)).toList ++ cur.toList.drop (0 + 0 + (Builtin.zeroCells #[.bool false, .int .i64 0] (m + 1)).toList.length)).toArray = R := ⟨_, rfl⟩
      rw [hR] at hst
      have hRs : R.size = c * 2 := by
        rw [← hR]
        simp only [List.size_toArray, List.length_append, z1, List.length_take, List.length_drop, Array.length_toList, hcs']
        omega
      have hfin : (Builtin.clear_ #[61] ty #[.slice (some ⟨g, 0, none⟩) (m + 1) c]).run Try.prog w = .ok (.tuple #[]) (w.setRow g R) := by
        simp [Builtin.clear_, run_underlying Try.underlying61, hz, Value.cells, hst]
      refine ⟨w.setRow g R, hfin, ⟨rfl, rfl, rfl, ?_, fun k _ hne => ?_⟩, ?_⟩
      rotate_right
      · refine ⟨fun k hk => h0 k hk, [], ⟨rfl, .inr ⟨g, c, R, rfl, hbg, setRow_heap w g cur R 71 (0, 0) hX, Nat.zero_le _, hcm, ?_, rfl⟩⟩, Reps.none _ _⟩
        exact hRs
      · simp [World.setRow]
      · simp only [World.setRow, Array.getElem?_modify]
        rw [if_neg (fun e => hne (by rw [← e]; rfl))]
end Go.Proofs.Ytbccjamcfodeiaa.Tape4
