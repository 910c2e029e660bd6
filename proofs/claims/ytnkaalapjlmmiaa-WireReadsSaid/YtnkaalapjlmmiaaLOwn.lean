/- A call's own blocks as a list: what each holds, that they are apart, and what an alloc, a store, a draw or a call that leaves them alone does to the list. Plain lemmas, no condition. -/
import Derived.Below
import Derived.WalkKit
import Derived.Deep.Draws
import Derived.Laws.CopyRow
import Derived.Laws.OwnMore
namespace Go.Proofs.Ytnkaalapjlmmiaa.LOwn
open Go.RowKit

/-- A block: its number, its cells, its type. -/
structure Blk where
  g : Nat
  cs : List Value
  t : TypeId
/-- From B on the world w has the blocks of L, all apart; below B it is as w0 was. -/
structure Own (B : Nat) (w0 : World) (L : List Blk) (w : World) : Prop where
  below : Below B w0 w
  base : B ≤ w.heap.size
  has : ∀ b ∈ L, B ≤ b.g ∧ w.heap[b.g]? = some (.cells b.cs.toArray b.t (0, 0))
  apart : (L.map (·.g)).Nodup
/-- Block number i has other cells. -/
def setB : List Blk → Nat → List Value → List Blk
  | [], _, _ => []
  | b :: L, 0, cs => ⟨b.g, cs, b.t⟩ :: L
  | b :: L, i + 1, cs => b :: setB L i cs
/-- Cells written over, from j on. -/
def putC : List Value → Nat → List Value → List Value
  | cs, _, [] => cs
  | [], _, _ => []
  | _ :: cs, 0, v :: vs => v :: putC cs 0 vs
  | c :: cs, j + 1, vs => c :: putC cs j vs
theorem putC_length : ∀ (cs : List Value) (j : Nat) (vs : List Value), (putC cs j vs).length = cs.length
  | cs, _, [] => by unfold putC; rfl
  | [], _, _ :: _ => rfl
  | _ :: cs, 0, v :: vs => by simp [putC, putC_length cs 0 vs]
  | c :: cs, j + 1, v :: vs => by simp [putC, putC_length cs j (v :: vs)]
theorem putC_eq : ∀ (cs : List Value) (j : Nat) (vs : List Value), j + vs.length ≤ cs.length → putC cs j vs = cs.take j ++ vs ++ cs.drop (j + vs.length)
  | cs, j, [], _ => by unfold putC; simp
  | [], _, _ :: _, h => by simp at h
  | _ :: cs, 0, v :: vs, h => by
    have := putC_eq cs 0 vs (by simpa using h)
    simp [putC, this]
  | c :: cs, j + 1, v :: vs, h => by
    have := putC_eq cs j (v :: vs) (by simp at h ⊢; omega)
    have e : j + 1 + (v :: vs).length = j + (v :: vs).length + 1 := by omega
    simp only [putC, this, e, List.drop_succ_cons, List.take_succ_cons, List.cons_append]
theorem putC_one : ∀ (cs : List Value) (j : Nat) (v : Value), putC cs j [v] = cs.set j v
  | [], _, _ => rfl
  | _ :: cs, 0, v => by simp [putC]
  | c :: cs, j + 1, v => by simp [putC, putC_one cs j v]
theorem setB_g (L : List Blk) : ∀ i cs, (setB L i cs).map (·.g) = L.map (·.g) := by
  induction L with
  | nil => intro i cs; rfl
  | cons b L ih =>
    intro i cs
    cases i with
    | zero => rfl
    | succ i => simp [setB, ih]
theorem mem_setB (L : List Blk) : ∀ i cs b, b ∈ setB L i cs → (∃ k, k ≠ i ∧ L[k]? = some b) ∨ (∃ b0, L[i]? = some b0 ∧ b = ⟨b0.g, cs, b0.t⟩) := by
  induction L with
  | nil => intro i cs b h; simp [setB] at h
  | cons b1 L ih =>
    intro i cs b h
    cases i with
    | zero =>
      simp only [setB, List.mem_cons] at h
      rcases h with h | h
      · exact .inr ⟨b1, rfl, h⟩
      · obtain ⟨k, hk, rfl⟩ := List.getElem_of_mem h
        exact .inl ⟨k + 1, by omega, by simp⟩
    | succ i =>
      simp only [setB, List.mem_cons] at h
      rcases h with h | h
      · exact .inl ⟨0, by omega, by simp [h]⟩
      · rcases ih i cs b h with ⟨k, hk, hb⟩ | ⟨b0, hb, he⟩
        · exact .inl ⟨k + 1, by omega, by simpa using hb⟩
        · exact .inr ⟨b0, by simpa using hb, he⟩
section
variable {B : Nat} {w0 w : World} {L : List Blk}
theorem Own.none_ (w : World) : Own w.heap.size w [] w := ⟨Below.refl _ _, Nat.le_refl _, by simp, by simp⟩
theorem Own.lt (h : Own B w0 L w) {b : Blk} (hb : b ∈ L) : b.g < w.heap.size := (Array.getElem?_eq_some_iff.1 (h.has b hb).2).1
theorem Own.alloc (h : Own B w0 L w) (cs : List Value) (t : TypeId) : Own B w0 (⟨w.heap.size, cs, t⟩ :: L) (w.alloc (.cells cs.toArray t)) := by
  refine ⟨h.below.alloc h.base _, Nat.le_trans h.base (by simp), ?_, ?_⟩
  · intro b hb
    rcases List.mem_cons.1 hb with rfl | hb
    · exact ⟨h.base, heap_alloc_new w _⟩
    · exact ⟨(h.has b hb).1, (Below.heap_alloc w _ _ (h.lt hb)).trans (h.has b hb).2⟩
  · simp only [List.map_cons, List.nodup_cons]
    refine ⟨fun hm => ?_, h.apart⟩
    obtain ⟨b, hb, e⟩ := List.mem_map.1 hm
    have := h.lt hb
    omega
theorem Own.drew (h : Own B w0 L w) : Own B w0 L w.drew := ⟨h.below.drew, h.base, h.has, h.apart⟩
theorem Own.drewN (h : Own B w0 L w) (n : Nat) : Own B w0 L (w.drewN n) := ⟨⟨h.below.os, h.below.tape, h.below.output, h.below.size, h.below.block⟩, h.base, h.has, h.apart⟩
/-- Only block number i (its number g) has turned, or what is new. -/
theorem Own.turn (h : Own B w0 L w) (i : Nat) {b0 : Blk} (hi : L[i]? = some b0) {w1 : World} (ho : w1.os = w.os) (ht : w1.tape = w.tape) (hp : w1.output = w.output) (hz : w.heap.size ≤ w1.heap.size)
    (hk : ∀ k, k < w.heap.size → k ≠ b0.g → w1.heap[k]? = w.heap[k]?) {cs : List Value} (hn : w1.heap[b0.g]? = some (.cells cs.toArray b0.t (0, 0))) : Own B w0 (setB L i cs) w1 := by
  have hm0 : b0 ∈ L := List.mem_of_getElem? hi
  have hB0 := (h.has b0 hm0).1
  refine ⟨h.below.trans ⟨ho, ht, hp, hz, fun k hk' => hk k (Nat.lt_of_lt_of_le hk' h.base) (by omega)⟩, Nat.le_trans h.base hz, ?_, by rw [setB_g]; exact h.apart⟩
  intro b hb
  rcases mem_setB L i cs b hb with ⟨k, hki, hbk⟩ | ⟨b1, hb1, rfl⟩
  · have hm := List.mem_of_getElem? hbk
    refine ⟨(h.has b hm).1, (hk _ (h.lt hm) ?_).trans (h.has b hm).2⟩
    intro e
    have e' : (L.map (·.g))[k]? = (L.map (·.g))[i]? := by simp [hbk, hi]; exact e
    have hkl : k < (L.map (·.g)).length := by
      have := (List.getElem?_eq_some_iff.1 hbk).1
      simpa using this
    have hil : i < (L.map (·.g)).length := by
      have := (List.getElem?_eq_some_iff.1 hi).1
      simpa using this
    have P := List.pairwise_iff_getElem.1 h.apart
    rw [List.getElem?_eq_getElem hkl, List.getElem?_eq_getElem hil] at e'
    have e'' := Option.some.inj e'
    rcases Nat.lt_trichotomy k i with hlt | he | hgt
    · exact P k i hkl hil hlt e''
    · exact hki he
    · exact P i k hil hkl hgt e''.symm
  · have e : b1 = b0 := by rw [hi] at hb1; exact (Option.some.inj hb1).symm
    subst e
    exact ⟨hB0, hn⟩
theorem Own.setRow (h : Own B w0 L w) (i : Nat) {b0 : Blk} (hi : L[i]? = some b0) (cs : List Value) : Own B w0 (setB L i cs) (w.setRow b0.g cs.toArray) := by
  have hg := (h.has b0 (List.mem_of_getElem? hi)).2
  refine h.turn (w1 := w.setRow b0.g cs.toArray) i hi rfl rfl rfl (by simp [World.setRow]) (fun k _ hk => ?_) (setRow_heap w b0.g _ _ _ _ hg)
  simp only [World.setRow, Array.getElem?_modify]
  rw [if_neg (fun e => hk e.symm)]
theorem Own.cell (h : Own B w0 L w) (i : Nat) {g : Nat} {cs : List Value} {t : TypeId} (hi : L[i]? = some ⟨g, cs, t⟩) (j : Nat) (v : Value) : Own B w0 (setB L i (putC cs j [v])) (w.setCell ⟨g, j, none⟩ v) := by
  have hg := (h.has _ (List.mem_of_getElem? hi)).2
  have e : w.setCell ⟨g, j, none⟩ v = w.setRow g (putC cs j [v]).toArray := by
    rw [setCell_eq_setRow w g j _ _ _ v hg]
    congr 1
    rw [List.setIfInBounds_toArray]
    congr 1
    exact (putC_one cs j v).symm
  rw [e]
  exact h.setRow i hi _
/-- A call, or whatever leaves alone what was there. -/
theorem Own.later {w1 : World} (h : Own B w0 L w) (hb : Below w.heap.size w w1) : Own B w0 L w1 :=
  ⟨h.below.trans (hb.mono h.base), Nat.le_trans h.base hb.size, fun b hm => ⟨(h.has b hm).1, (hb.block _ (h.lt hm)).trans (h.has b hm).2⟩, h.apart⟩
theorem later_goal {w1 : World} {R : Prop} (hb : Below w.heap.size w w1) (HO : Own B w0 L w) (k : Own B w0 L w1 → R) : R := k (HO.later hb)
theorem cell_set_far {w : World} {g g' i j : Nat} {v : Value} (hg : g ≠ g') : (w.setCell ⟨g', j, none⟩ v).cell? ⟨g, i, none⟩ = w.cell? ⟨g, i, none⟩ :=
  World.cell?_of_block (w := w) (Below.heap_setCell w ⟨g', j, none⟩ v g hg)
theorem size_set {w : World} {a : Addr} {v : Value} : (w.setCell a v).heap.size = w.heap.size := by simp [World.setCell]
theorem fwd_goal {L' : List Blk} (HO : Own B w0 L w) (k : Own B w0 L w → Own B w0 L' w) : Own B w0 L' w := k HO
/-- A cell of elder memory. -/
theorem Own.old (h : Own B w0 L w) {b o : Nat} (hb : b < B) : w.cell? ⟨b, o, none⟩ = w0.cell? ⟨b, o, none⟩ := h.below.cell (p := ⟨b, o, none⟩) hb
/-- Some blocks are no longer looked at. -/
theorem Own.sub {L' : List Blk} (h : Own B w0 L w) (hs : List.Sublist L' L) : Own B w0 L' w :=
  ⟨h.below, h.base, fun b hm => h.has b (hs.subset hm), (hs.map _).nodup h.apart⟩
theorem Own.pick (i : Nat) (h : Own B w0 L w) {b : Blk} (hi : L[i]? = some b) : Own B w0 [b] w :=
  ⟨h.below, h.base, fun b' hm => by
    rw [List.mem_singleton.1 hm]
    exact h.has b (List.mem_of_getElem? hi), by simp⟩
theorem Own.swap {a b : Blk} (h : Own B w0 (a :: b :: L) w) : Own B w0 (b :: a :: L) w :=
  ⟨h.below, h.base, fun c hc => h.has c (by simp only [List.mem_cons] at hc ⊢; rcases hc with h | h | h <;> simp [h]), by
    have := h.apart
    simp only [List.map_cons, List.nodup_cons, List.mem_cons, not_or] at this ⊢
    exact ⟨⟨fun e => this.1.1 e.symm, this.2.1⟩, this.1.2, this.2.2⟩⟩
theorem Own.tail {b : Blk} (h : Own B w0 (b :: L) w) : Own B w0 L w := h.sub (List.sublist_cons_self _ _)
end
def CellsOf (w : World) (g : Nat) : Nat → List Value → Prop
  | _, [] => True
  | j, v :: vs => w.cell? ⟨g, j, none⟩ = some v ∧ w.frozen? ⟨g, j, none⟩ = false ∧ CellsOf w g (j + 1) vs
def Facts (w : World) : List Blk → Prop
  | [] => True
  | b :: L => (b.g < w.heap.size ∧ CellsOf w b.g 0 b.cs) ∧ Facts w L
/-- The cells of the blocks, as equations. -/
def CellsAt (w : World) (g : Nat) : Nat → List Value → Prop
  | _, [] => True
  | j, v :: vs => w.cell? ⟨g, j, none⟩ = some v ∧ CellsAt w g (j + 1) vs
def Cells (w : World) : List Blk → Prop
  | [] => True
  | b :: L => CellsAt w b.g 0 b.cs ∧ Cells w L
/-- The blocks' numbers are from B on. -/
def Froms (B : Nat) : List Blk → Prop
  | [] => True
  | b :: L => B ≤ b.g ∧ Froms B L
theorem froms_of {B : Nat} : ∀ {L : List Blk}, (∀ b ∈ L, B ≤ b.g) → Froms B L
  | [], _ => trivial
  | b :: _, h => ⟨h b (by simp), froms_of fun b' hb' => h b' (by simp [hb'])⟩
def ApartOf (g : Nat) : List Blk → Prop
  | [] => True
  | b :: L => (g ≠ b.g ∧ b.g ≠ g) ∧ ApartOf g L
def Aparts : List Blk → Prop
  | [] => True
  | b :: L => ApartOf b.g L ∧ Aparts L
theorem cellsOf_blk {w : World} {g : Nat} {cs : Array Value} {t : TypeId} (h : w.heap[g]? = some (.cells cs t (0, 0))) : ∀ (l : List Value) (j : Nat), (∀ i v, l[i]? = some v → cs[j + i]? = some v) → CellsOf w g j l := by
  intro l
  induction l with
  | nil => intro j _; trivial
  | cons v vs ih =>
    intro j hj
    refine ⟨?_, ?_, ih (j + 1) fun i v hi => ?_⟩
    · simp [World.cell?, h]
      exact hj 0 v rfl
    · simp [World.frozen?, h]
    · have := hj (i + 1) v (by simpa using hi)
      rw [← this]
      congr 1
      omega
theorem facts_of {w : World} : ∀ {L : List Blk}, (∀ b ∈ L, w.heap[b.g]? = some (.cells b.cs.toArray b.t (0, 0))) → Facts w L
  | [], _ => trivial
  | b :: L, h => ⟨⟨(Array.getElem?_eq_some_iff.1 (h b (by simp))).1, cellsOf_blk (h b (by simp)) _ _ fun i v hi => by simpa using hi⟩, facts_of fun b' hb' => h b' (by simp [hb'])⟩
theorem apartOf_of {g : Nat} : ∀ {L : List Blk}, (∀ b ∈ L, g ≠ b.g) → ApartOf g L
  | [], _ => trivial
  | b :: L, h => ⟨⟨h b (by simp), fun e => h b (by simp) e.symm⟩, apartOf_of fun b' hb' => h b' (by simp [hb'])⟩
theorem aparts_of : ∀ {L : List Blk}, (L.map (·.g)).Nodup → Aparts L
  | [], _ => trivial
  | b :: L, h => by
    simp only [List.map_cons, List.nodup_cons] at h
    exact ⟨apartOf_of fun b' hb' e => h.1 (List.mem_map.2 ⟨b', hb', e.symm⟩), aparts_of h.2⟩
theorem cellsAt_of {w : World} {g : Nat} : ∀ {l : List Value} {j : Nat}, CellsOf w g j l → CellsAt w g j l
  | [], _, _ => trivial
  | _ :: _, _, h => ⟨h.1, cellsAt_of h.2.2⟩
theorem cells_of {w : World} : ∀ {L : List Blk}, Facts w L → Cells w L
  | [], _ => trivial
  | _ :: _, h => ⟨cellsAt_of h.1.2, cells_of h.2⟩
theorem Own.cells {B : Nat} {w0 w : World} {L : List Blk} (h : Own B w0 L w) : Cells w L := cells_of (facts_of fun b hb => (h.has b hb).2)
theorem Own.facts {B : Nat} {w0 w : World} {L : List Blk} (h : Own B w0 L w) : Facts w L := facts_of fun b hb => (h.has b hb).2
theorem Own.froms {B : Nat} {w0 w : World} {L : List Blk} (h : Own B w0 L w) : Froms B L := froms_of fun b hb => (h.has b hb).1
theorem Own.aparts {B : Nat} {w0 w : World} {L : List Blk} (h : Own B w0 L w) : Aparts L := aparts_of h.apart
theorem Own.blk {B : Nat} {w0 w : World} {L : List Blk} (h : Own B w0 L w) (i : Nat) {b : Blk} (hi : L[i]? = some b) : w.heap[b.g]? = some (.cells b.cs.toArray b.t (0, 0)) := (h.has b (List.mem_of_getElem? hi)).2
theorem at0 {b0 : Blk} {L : List Blk} : (b0 :: L)[0]? = some b0 := rfl
theorem at1 {b0 b1 : Blk} {L : List Blk} : (b0 :: b1 :: L)[1]? = some b1 := rfl
theorem at2 {b0 b1 b2 : Blk} {L : List Blk} : (b0 :: b1 :: b2 :: L)[2]? = some b2 := rfl
theorem at3 {b0 b1 b2 b3 : Blk} {L : List Blk} : (b0 :: b1 :: b2 :: b3 :: L)[3]? = some b3 := rfl
theorem at4 {b0 b1 b2 b3 b4 : Blk} {L : List Blk} : (b0 :: b1 :: b2 :: b3 :: b4 :: L)[4]? = some b4 := rfl
theorem at5 {b0 b1 b2 b3 b4 b5 : Blk} {L : List Blk} : (b0 :: b1 :: b2 :: b3 :: b4 :: b5 :: L)[5]? = some b5 := rfl
theorem at6 {b0 b1 b2 b3 b4 b5 b6 : Blk} {L : List Blk} : (b0 :: b1 :: b2 :: b3 :: b4 :: b5 :: b6 :: L)[6]? = some b6 := rfl
theorem at7 {b0 b1 b2 b3 b4 b5 b6 b7 : Blk} {L : List Blk} : (b0 :: b1 :: b2 :: b3 :: b4 :: b5 :: b6 :: b7 :: L)[7]? = some b7 := rfl
theorem at8 {b0 b1 b2 b3 b4 b5 b6 b7 b8 : Blk} {L : List Blk} : (b0 :: b1 :: b2 :: b3 :: b4 :: b5 :: b6 :: b7 :: b8 :: L)[8]? = some b8 := rfl
theorem at9 {b0 b1 b2 b3 b4 b5 b6 b7 b8 b9 : Blk} {L : List Blk} : (b0 :: b1 :: b2 :: b3 :: b4 :: b5 :: b6 :: b7 :: b8 :: b9 :: L)[9]? = some b9 := rfl
theorem at10 {b0 b1 b2 b3 b4 b5 b6 b7 b8 b9 b10 : Blk} {L : List Blk} : (b0 :: b1 :: b2 :: b3 :: b4 :: b5 :: b6 :: b7 :: b8 :: b9 :: b10 :: L)[10]? = some b10 := rfl
theorem at11 {b0 b1 b2 b3 b4 b5 b6 b7 b8 b9 b10 b11 : Blk} {L : List Blk} : (b0 :: b1 :: b2 :: b3 :: b4 :: b5 :: b6 :: b7 :: b8 :: b9 :: b10 :: b11 :: L)[11]? = some b11 := rfl
theorem at12 {b0 b1 b2 b3 b4 b5 b6 b7 b8 b9 b10 b11 b12 : Blk} {L : List Blk} : (b0 :: b1 :: b2 :: b3 :: b4 :: b5 :: b6 :: b7 :: b8 :: b9 :: b10 :: b11 :: b12 :: L)[12]? = some b12 := rfl
theorem at13 {b0 b1 b2 b3 b4 b5 b6 b7 b8 b9 b10 b11 b12 b13 : Blk} {L : List Blk} : (b0 :: b1 :: b2 :: b3 :: b4 :: b5 :: b6 :: b7 :: b8 :: b9 :: b10 :: b11 :: b12 :: b13 :: L)[13]? = some b13 := rfl
theorem ct_agg (cs : List Value) : (Value.agg cs.toArray).cells.toList = cs := by simp [Value.cells]
theorem ct_int (k : IntKind) (n : Int) : (Value.int k n).cells.toList = [.int k n] := rfl
theorem ct_bool (b : Bool) : (Value.bool b).cells.toList = [.bool b] := rfl
theorem ct_pointer (a : Option Addr) : (Value.pointer a).cells.toList = [.pointer a] := rfl
theorem ct_slice (a : Option Addr) (n c : Nat) : (Value.slice a n c).cells.toList = [.slice a n c] := rfl
theorem ct_string (b : ByteArray) : (Value.string b).cells.toList = [.string b] := rfl
theorem ct_map (r : Option Nat) : (Value.map r).cells.toList = [.map r] := rfl
section
variable {P : Program} {ops : Array Oper} {rest : List Oper} {o : Oper} {a : Act} {Q : Exit → Act → World → Prop} {Kc : Act → World → Prop} {B : Nat} {w0 W : World} {L : List Blk}
/-- Where the walk has spelled the world out: it is forgotten but for the list. -/
theorem own_norm {C : Code} (HO : Own B w0 L W) (h : ∀ w1, Own B w0 L w1 → C.wp P Q a w1) : C.wp P Q a W := h W HO
theorem run_box_op {T : TypeId} {x : Operand} (ho : o.op = .box T x) {v : Value} (hx : a.eval x = v) {vs : List Value} (hv : v.cells.toList = vs) :
    (execOp a.eval o).run P W = .ok (.value (.pointer (some ⟨W.heap.size, 0, none⟩))) (W.alloc (.cells vs.toArray T)) := by
  subst hv
  unfold execOp
  simp [ho, hx, Instr.box, newVar, newRow]
theorem run_alloc_op {T : TypeId} (ho : o.op = .alloc T) {z : Value} {n : Nat} (hz : (P.info? T).map (fun i => (i.zero, i.size)) = some (some z, n)) {vs : List Value} (hv : z.cells.toList = vs) :
    (execOp a.eval o).run P W = .ok (.value (.pointer (some ⟨W.heap.size, 0, none⟩))) (W.alloc (.cells vs.toArray T)) := by
  subst hv
  obtain ⟨i, hi, e⟩ := Option.map_eq_some_iff.1 hz
  simp only [Prod.mk.injEq] at e
  have hzr : (zeroValue T).run P W = .ok z W := by simp [zeroValue, typeInfo, hi, e.1]
  unfold execOp
  simp [ho, Instr.alloc, hzr, newVar, newRow]
theorem run_store_op {T : TypeId} {x y : Operand} (ho : o.op = .store T x y) {g j : Nat} {v : Value} (hx : a.eval x = .pointer (some ⟨g, j, none⟩)) (hy : a.eval y = v) {vs : List Value} (hv : v.cells.toList = vs)
    {z : Value} (hz : (P.info? T).map (fun i => (i.zero, i.size)) = some (some z, vs.length)) {cs : List Value} {t : TypeId} (hg : W.heap[g]? = some (.cells cs.toArray t (0, 0))) (hl : j + vs.length ≤ cs.length) (h1 : ∀ u ∈ vs, u.oneCell' = true) :
    (execOp a.eval o).run P W = .ok .skip (W.setRow g (putC cs j vs).toArray) := by
  obtain ⟨i, hi, e⟩ := Option.map_eq_some_iff.1 hz
  simp only [Prod.mk.injEq] at e
  have hs := run_storeCells_at (P := P) g j t vs 0 cs.toArray W hg (by simpa using hl) h1
  rw [putC_eq cs j vs hl]
  unfold execOp
  have hvs : v.cells.size = i.size := by rw [e.2, ← hv]; simp
  have hs' : (storeCells ⟨g, j, none⟩ vs).run P W = .ok () (W.setRow g (cs.take j ++ vs ++ cs.drop (j + vs.length)).toArray) := by simpa using hs
  simp [ho, hx, hy, Instr.storeAt, Instr.sureAddr, storeVar, sizeOf, typeInfo, hi, hvs, hv, hs']
/-- A new variable that holds a value. -/
theorem own_box (HO : Own B w0 L W) (hgd : o.guard = none) {T : TypeId} {x : Operand} (ho : o.op = .box T x) {v : Value} (hx : a.eval x = v) {vs : List Value} (hv : v.cells.toList = vs)
    (h : ∀ g w1, Own B w0 (⟨g, vs, T⟩ :: L) w1 → Below W.heap.size W w1 → wpList P ops Q rest (a.put o.dst (.pointer (some ⟨g, 0, none⟩))) w1) : wpList P ops Q (o :: rest) a W := by
  refine wpList_plain hgd fun K hK => ?_
  unfold Oper.wp
  rw [run_box_op ho hx hv]
  exact hK _ _ (h _ _ (HO.alloc vs T) ((Below.refl _ _).alloc (Nat.le_refl _) _))
/-- A new variable, zero. -/
theorem own_alloc (HO : Own B w0 L W) (hgd : o.guard = none) {T : TypeId} (ho : o.op = .alloc T) {z : Value} {n : Nat} (hz : (P.info? T).map (fun i => (i.zero, i.size)) = some (some z, n)) {vs : List Value} (hv : z.cells.toList = vs)
    (h : ∀ g w1, Own B w0 (⟨g, vs, T⟩ :: L) w1 → Below W.heap.size W w1 → wpList P ops Q rest (a.put o.dst (.pointer (some ⟨g, 0, none⟩))) w1) : wpList P ops Q (o :: rest) a W := by
  refine wpList_plain hgd fun K hK => ?_
  unfold Oper.wp
  rw [run_alloc_op ho hz hv]
  exact hK _ _ (h _ _ (HO.alloc vs T) ((Below.refl _ _).alloc (Nat.le_refl _) _))
/-- A store into block number i of the list. -/
theorem own_store (i : Nat) (HO : Own B w0 L W) (hgd : o.guard = none) {T : TypeId} {x y : Operand} (ho : o.op = .store T x y) {g j : Nat} {v : Value} (hx : a.eval x = .pointer (some ⟨g, j, none⟩)) {cs : List Value} {t : TypeId} (hi : L[i]? = some ⟨g, cs, t⟩)
    (hy : a.eval y = v) {vs : List Value} (hv : v.cells.toList = vs) {z : Value} {n : Nat} (hz : (P.info? T).map (fun i => (i.zero, i.size)) = some (some z, n)) (hn : n = vs.length) (hl : j + vs.length ≤ cs.length) (h1 : ∀ u ∈ vs, u.oneCell' = true)
    (h : ∀ w1, Own B w0 (setB L i (putC cs j vs)) w1 → wpList P ops Q rest (a.put o.dst undef) w1) : wpList P ops Q (o :: rest) a W := by
  subst hn
  refine wpList_plain hgd fun K hK => ?_
  unfold Oper.wp
  rw [run_store_op ho hx hy hv hz (HO.blk i hi) hl h1]
  exact hK _ _ (h _ (HO.setRow i hi _))
theorem ownS_box (HO : Own B w0 L W) (hw : Region.wanted o (yielded ops a.tmps) = true) {T : TypeId} {x : Operand} (ho : o.op = .box T x) {v : Value} (hx : a.eval x = v) {vs : List Value} (hv : v.cells.toList = vs)
    (h : ∀ g w1, Own B w0 (⟨g, vs, T⟩ :: L) w1 → Below W.heap.size W w1 → Kc (a.put o.dst (.pointer (some ⟨g, 0, none⟩))) w1) : if Region.wanted o (yielded ops a.tmps) = true then Oper.wp P o a W Kc Q else Kc (a.put o.dst undef) W := by
  rw [if_pos hw]
  unfold Oper.wp
  rw [run_box_op ho hx hv]
  exact h _ _ (HO.alloc vs T) ((Below.refl _ _).alloc (Nat.le_refl _) _)
theorem ownS_alloc (HO : Own B w0 L W) (hw : Region.wanted o (yielded ops a.tmps) = true) {T : TypeId} (ho : o.op = .alloc T) {z : Value} {n : Nat} (hz : (P.info? T).map (fun i => (i.zero, i.size)) = some (some z, n)) {vs : List Value} (hv : z.cells.toList = vs)
    (h : ∀ g w1, Own B w0 (⟨g, vs, T⟩ :: L) w1 → Below W.heap.size W w1 → Kc (a.put o.dst (.pointer (some ⟨g, 0, none⟩))) w1) : if Region.wanted o (yielded ops a.tmps) = true then Oper.wp P o a W Kc Q else Kc (a.put o.dst undef) W := by
  rw [if_pos hw]
  unfold Oper.wp
  rw [run_alloc_op ho hz hv]
  exact h _ _ (HO.alloc vs T) ((Below.refl _ _).alloc (Nat.le_refl _) _)
theorem ownS_store (i : Nat) (HO : Own B w0 L W) (hw : Region.wanted o (yielded ops a.tmps) = true) {T : TypeId} {x y : Operand} (ho : o.op = .store T x y) {g j : Nat} {v : Value} (hx : a.eval x = .pointer (some ⟨g, j, none⟩)) {cs : List Value} {t : TypeId} (hi : L[i]? = some ⟨g, cs, t⟩)
    (hy : a.eval y = v) {vs : List Value} (hv : v.cells.toList = vs) {z : Value} {n : Nat} (hz : (P.info? T).map (fun i => (i.zero, i.size)) = some (some z, n)) (hn : n = vs.length) (hl : j + vs.length ≤ cs.length) (h1 : ∀ u ∈ vs, u.oneCell' = true)
    (h : ∀ w1, Own B w0 (setB L i (putC cs j vs)) w1 → Kc (a.put o.dst undef) w1) : if Region.wanted o (yielded ops a.tmps) = true then Oper.wp P o a W Kc Q else Kc (a.put o.dst undef) W := by
  subst hn
  rw [if_pos hw]
  unfold Oper.wp
  rw [run_store_op ho hx hy hv hz (HO.blk i hi) hl h1]
  exact h _ (HO.setRow i hi _)
end
end Go.Proofs.Ytnkaalapjlmmiaa.LOwn
