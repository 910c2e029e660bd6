/- PROVED: copy of elements of whatever size within a row of the call's own, as one step of a region that draws; what a message taken out of a net leaves. No condition beyond what each line says. -/
import Derived.Test.YtglhojkchpbnkaaNet2
import Derived.Test.YtglhojkchpbnkaaNetAwake
import Derived.Laws.CopyOwn
import Derived.Laws.CopyRow
import Derived.Deep.RegionLaw
import Derived.WalkKit
import Derived.WalkSpells
import Derived.WalkLawsBesides
import Derived.Outline
import Derived.Lib.Hide
namespace Go.Proofs.Ytglhojkchpbnkaa.NetTake
open Go.RowKit Go.Proofs.Ytglhojkchpbnkaa.PNetPlays Go.Proofs.Ytglhojkchpbnkaa.Net2 Go.Proofs.YtglhojkchpbnkaaW.PrintWords Go.Proofs.YtglhojkchpbnkaaW.PrintLast Go.Proofs.YtglhojkchpbnkaaW.PrintMore
open Go.Proofs.Ytglhojkchpbnkaa.NetAwake (world_gen)
open Go.Proofs.Ytglhojkchpbnkaa.Net (own_is info29 k29_types at_in len_is look_fin)
set_option linter.unusedSimpArgs false
set_option linter.unusedVariables false
theorem run_copy_wide {P : Program} (w : World) (dT sT ty elem : TypeId) (i : TypeInfo) (g o dLen dCap : Nat) (a : Addr) (sLen sCap : Nat) (cur : Array Value) (t : TypeId) (cs : List Value)
    (hu : P.underlying dT = some (.slice elem)) (hq : P.info? elem = some i)
    (hg : w.heap[g]? = some (.cells cur t (0, 0))) (hn : cs.length = Nat.min sLen dLen * i.size)
    (hsrc : ∀ j v, cs[j]? = some v → w.cell? (a.add j) = some v) (hfit : o + cs.length ≤ cur.size) (h1 : ∀ v ∈ cs, v.oneCell' = true) :
    (Builtin.copy_ #[dT, sT] ty #[.slice (some ⟨g, o, none⟩) dLen dCap, .slice (some a) sLen sCap]).run P w =
      .ok (goInt (Nat.min sLen dLen)) (w.setRow g (cur.toList.take o ++ cs ++ cur.toList.drop (o + cs.length)).toArray) := by
  have hl := run_firstCells_some (P := P) (w := w) i.size (Nat.min sLen dLen) a sLen sCap cs hn hsrc
  have hst := run_storeCells_at P g o t cs 0 cur w hg (by simpa using hfit) h1
  simp [Builtin.copy_, run_underlying hu, Builtin.lenOf, sizeOf, typeInfo, hq, hl, hst]
theorem run_copy_zero {P : Program} (w : World) (dT sT ty elem : TypeId) (i : TypeInfo) (dp sp : Option Addr) (dLen dCap sLen sCap : Nat)
    (hu : P.underlying dT = some (.slice elem)) (hq : P.info? elem = some i) (hn : Nat.min sLen dLen = 0) :
    (Builtin.copy_ #[dT, sT] ty #[.slice dp dLen dCap, .slice sp sLen sCap]).run P w = .ok (goInt 0) w := by
  have hl : (Builtin.firstCells i.size 0 (.slice sp sLen sCap)).run P w = .ok #[] w := by
    cases sp with
    | none => simp [Builtin.firstCells]
    | some a => exact run_firstCells_some (P := P) (w := w) i.size 0 a sLen sCap [] (by simp) (fun j v h => by simp at h)
  cases dp with
  | none => simp [Builtin.copy_, run_underlying hu, Builtin.lenOf, sizeOf, typeInfo, hq, hn, hl]
  | some a => simp [Builtin.copy_, run_underlying hu, Builtin.lenOf, sizeOf, typeInfo, hq, hn, hl, storeCells]
/-- copy within rows of the call's own, whatever the elements' size, as one step of a region that draws its order. -/
theorem step_copy_wide {P : Program} {ops : Array Oper} {o : Oper} {a : Act} {w : World} {K : Act → World → Prop} {Q : Exit → Act → World → Prop} {E : Prop} (hgd : o.guard = none) (d s : Operand) (dT sT : TypeId)
    (ho : o.op = .call { callee := .builtin .copy, args := #[d, s], argTypes := #[dT, sT] }) (elem : TypeId) (size : Nat) (hu : P.underlying dT = some (.slice elem)) (hsz : (P.info? elem).map (·.size) = some size)
    (dp sp : Option Addr) (dLen dCap sLen sCap : Nat) (hd : a.eval d = .slice dp dLen dCap) (hs : a.eval s = .slice sp sLen sCap)
    (g off : Nat) (cur : List Value) (t : TypeId) (hg : w.heap[g]? = some (.cells cur.toArray t (0, 0))) (m : Nat) (hm : m = Nat.min sLen dLen) (cs : List Value) (hn : cs.length = m * size)
    (hpos : 0 < m → dp = some ⟨g, off, none⟩ ∧ ∃ ad, sp = some ad ∧ ∀ j v, cs[j]? = some v → w.cell? (ad.add j) = some v)
    (hfit : off + cs.length ≤ cur.length) (h1 : ∀ v ∈ cs, v.oneCell' = true)
    (h : ∀ w', w'.heap[g]? = some (.cells (splice cur off cs).toArray t (0, 0)) → w.grownBy w' (some g) → w'.heap.size = w.heap.size → K (a.put o.dst (goInt m)) w') :
    if Region.wanted o (yielded ops a.tmps) = true then Oper.wp P o a w K Q else E := by
  have hw : Region.wanted o (yielded ops a.tmps) = true := by simp [Region.wanted, hgd]
  rw [if_pos hw]
  obtain ⟨i, hq, hi⟩ := Option.map_eq_some_iff.1 hsz
  subst hi
  by_cases h0 : m = 0
  · subst h0
    obtain rfl : cs = [] := List.eq_nil_of_length_eq_zero (by simpa using hn)
    have hrun := run_copy_zero (P := P) w dT sT o.type elem i dp sp dLen dCap sLen sCap hu hq hm.symm
    unfold Oper.wp
    simp [execOp, ho, resolve, invoke, builtin, hd, hs, hrun, Result.andThen]
    exact h w (by simpa [splice] using hg) ⟨rfl, rfl, rfl, Nat.le_refl _, fun _ _ _ => rfl⟩ rfl
  · obtain ⟨rfl, ad, rfl, hsrc⟩ := hpos (by omega)
    have hrun := run_copy_wide (P := P) w dT sT o.type elem i g off dLen dCap ad sLen sCap cur.toArray t cs hu hq hg (by rw [hn, hm]) hsrc (by simpa using hfit) h1
    rw [← hm] at hrun
    unfold Oper.wp
    simp [execOp, ho, resolve, invoke, builtin, hd, hs, hrun, Result.andThen]
    refine h _ ?_ ⟨rfl, rfl, rfl, by simp [World.setRow], fun k _ hk => setRow_other w g k _ (fun e => hk (by rw [e]))⟩ (by simp [World.setRow])
    have := setRow_heap w g _ (cur.take off ++ cs ++ cur.drop (off + cs.length)).toArray t _ hg
    simpa [splice] using this
theorem chunk_lt {α : Type} (l : List α) (j k : Nat) (hj : j < k) (hk : k * 3 ≤ l.length) : ((l.take (k * 3) ++ l.drop ((k + 1) * 3)).drop (j * 3)).take 3 = (l.drop (j * 3)).take 3 := by
  apply List.ext_getElem?
  intro q
  simp only [List.getElem?_take, List.getElem?_drop, List.getElem?_append, List.length_take, Nat.min_eq_left hk]
  by_cases hq : q < 3
  · rw [if_pos hq, if_pos hq, if_pos (by omega), if_pos (by omega)]
  · rw [if_neg hq, if_neg hq]
theorem chunk_ge {α : Type} (l : List α) (j k : Nat) (hj : k ≤ j) (hk : k * 3 ≤ l.length) : ((l.take (k * 3) ++ l.drop ((k + 1) * 3)).drop (j * 3)).take 3 = (l.drop ((j + 1) * 3)).take 3 := by
  apply List.ext_getElem?
  intro q
  simp only [List.getElem?_take, List.getElem?_drop, List.getElem?_append, List.length_take, Nat.min_eq_left hk]
  by_cases hq : q < 3
  · rw [if_pos hq, if_pos hq, if_neg (by omega)]
    congr 1
    omega
  · rw [if_neg hq, if_neg hq]
/-- What a message taken out leaves: the others moved down. -/
theorem took {B k n cap g : Nat} {ok : Nat → Prop} {w w' : World} {ms : List S29} (h : Kd.S k29 29 w B ok (.slice (some ⟨g, 0, none⟩) n cap) ms) (hn : n = ms.length) (hk : k < ms.length) (cur : List Value) (hcur : w.heap[g]? = some (.cells cur.toArray 29 (0, 0)))
    (cur2 : Array Value) (h2 : w'.heap[g]? = some (.cells cur2 29 (0, 0))) (hsz : cur2.size = cur.length) (hpre : cur2.toList.take ((ms.length - 1) * 3) = (cur.take (ms.length * 3)).take (k * 3) ++ (cur.take (ms.length * 3)).drop ((k + 1) * 3))
    (hmv : ∀ b, ok b → b < w.heap.size → b ≠ g → w'.heap[b]? = w.heap[b]?) : Kd.S k29 29 w' B ok (.slice (some ⟨g, 0, none⟩) (ms.length - 1) cap) (ms.eraseIdx k) := by
  subst hn
  obtain ⟨f, h0, inner, ho, hr⟩ := h
  have hzl : (ms.zipIdx.eraseIdx k).length = ms.length - 1 := by rw [List.length_eraseIdx, List.length_zipIdx, if_pos hk]
  rw [List.length_zipIdx] at ho
  have hsz3 : (Kd.tag f k29).sz = 3 := rfl
  rw [hsz3] at ho hr
  obtain ⟨hil, hv⟩ := ho
  rcases hv with ⟨hv, _⟩ | ⟨g', cap', cur', hv, hBg, hc', hcap, hmax, hcs, htake⟩
  · cases hv
  simp only [Value.slice.injEq, Option.some.injEq, Addr.mk.injEq] at hv
  obtain ⟨⟨rfl, _, _⟩, _, rfl⟩ := hv
  rw [hcur] at hc'
  simp only [Option.some.injEq, Obj.cells.injEq] at hc'
  obtain ⟨rfl, _, _⟩ := hc'
  have htk : cur.take (ms.length * 3) = inner := by simpa using htake
  rw [htk] at hpre
  have hil' : inner.length = ms.length * 3 := hil
  refine Kd.S_erase (f := f) ⟨fun b hb => h0 b hb, inner.take (k * 3) ++ inner.drop ((k + 1) * 3), ⟨?_, Or.inr ⟨g, cap, cur2, ?_, hBg, h2, ?_, hmax, ?_, ?_⟩⟩, ?_, fun j q hj => ?_⟩
  · rw [hzl, hsz3, List.length_append, List.length_take, List.length_drop, hil', Nat.min_eq_left (Nat.mul_le_mul_right 3 (by omega))]
    omega
  · rw [hzl]
  · rw [hzl]; omega
  · rw [hsz3, hsz]; simpa using hcs
  · rw [hzl, hsz3]; exact hpre
  · rw [hzl, hsz3, List.length_append, List.length_take, List.length_drop, hil', Nat.min_eq_left (Nat.mul_le_mul_right 3 (by omega))]
    omega
  · have hM : ∀ j' q', ms.zipIdx[j']? = some q' → (Kd.tag f k29).M w' B (fun b => ok b ∧ some b ≠ (Value.slice (some ⟨g, 0, none⟩) ms.length cap).ownBlock) q' ((inner.drop (j' * 3)).take 3) := by
      intro j' q' hq'
      exact Kd.M_step (d := Kd.tag f k29) (hr.2 j' q' hq') (fun b hb hlt => hmv b hb.1 hlt (fun e => hb.2 (by rw [e]; rfl)))
    rw [List.getElem?_eraseIdx] at hj
    rw [hsz3]
    by_cases hjk : j < k
    · rw [if_pos hjk] at hj
      rw [chunk_lt inner j k hjk (by rw [hil']; exact Nat.mul_le_mul_right 3 (by omega))]
      exact hM j q hj
    · rw [if_neg hjk] at hj
      rw [chunk_ge inner j k (by omega) (by rw [hil']; exact Nat.mul_le_mul_right 3 (by omega))]
      exact hM (j + 1) q hj
theorem S_one {B n cap g : Nat} {ok : Nat → Prop} {w : World} {ms : List S29} (h : Kd.S k29 29 w B ok (.slice (some ⟨g, 0, none⟩) n cap) ms) (cur : Array Value) (hcur : w.heap[g]? = some (.cells cur 29 (0, 0))) : ∀ v ∈ cur.toList.take (ms.length * 3), v.oneCell' = true := by
  obtain ⟨f, h0, inner, ho, hr⟩ := h
  rw [List.length_zipIdx] at ho
  have hsz3 : (Kd.tag f k29).sz = 3 := rfl
  rw [hsz3] at ho hr
  obtain ⟨hil, hv⟩ := ho
  rcases hv with ⟨hv, _⟩ | ⟨g', cap', cur', hv, _, hc', _, _, _, htake⟩
  · cases hv
  simp only [Value.slice.injEq, Option.some.injEq, Addr.mk.injEq] at hv
  obtain ⟨⟨rfl, _, _⟩, _, rfl⟩ := hv
  rw [hcur] at hc'
  simp only [Option.some.injEq, Obj.cells.injEq] at hc'
  obtain ⟨rfl, _, _⟩ := hc'
  rw [htake]
  intro v hv
  obtain ⟨q, hq, rfl⟩ := List.getElem_of_mem hv
  have hj : q / 3 < ms.zipIdx.length := by rw [List.length_zipIdx]; omega
  have hM := hr.2 (q / 3) _ (List.getElem?_eq_getElem hj)
  refine (Kd.tag f k29).K_one ((Kd.tag f k29).K_of_M hM) _ ?_
  refine List.mem_of_getElem? (i := q % 3) ?_
  rw [List.getElem?_take, if_pos (by omega), List.getElem?_drop, show q / 3 * 3 + q % 3 = q by omega, List.getElem?_eq_getElem hq]
theorem cs_len {cap m k : Nat} (cur : Array Value) (h : cur.size = cap * 3) (h1 : m + 1 ≤ cap) (h2 : k < m + 1) : ((cur.toList.take ((m + 1) * 3)).drop ((k + 1) * 3)).length = (m - k) * 3 := by
  rw [List.length_drop, List.length_take, Array.length_toList, h]
  omega
theorem cs_fit {cap m k : Nat} (cur : Array Value) (h : cur.size = cap * 3) (h1 : m + 1 ≤ cap) (h2 : k < m + 1) : k * 3 + ((cur.toList.take ((m + 1) * 3)).drop ((k + 1) * 3)).length ≤ cur.toList.length := by
  rw [cs_len cur h h1 h2, Array.length_toList, h]
  omega
theorem cs_cells {g m k : Nat} {w : World} {cur : Array Value} (h : w.heap[g]? = some (.cells cur.toList.toArray 29 (0, 0))) : ∀ (j : Nat) (v : Value), ((cur.toList.take ((m + 1) * 3)).drop ((k + 1) * 3))[j]? = some v → w.drew.cell? ((⟨g, (k + 1) * 3, none⟩ : Addr).add j) = some v := by
  intro j v hj
  have e : (⟨g, (k + 1) * 3, none⟩ : Addr).add j = ⟨g, (k + 1) * 3 + j, none⟩ := by unfold Addr.add; split <;> simp_all
  rw [e, World.cell?_drew, blk_cell h]
  rw [List.getElem?_drop, List.getElem?_take] at hj
  split at hj
  · simpa using hj
  · cases hj
theorem cs_one {B n cap g m : Nat} {ok : Nat → Prop} {w : World} {ms : List S29} (h : Kd.S k29 29 w B ok (.slice (some ⟨g, 0, none⟩) n cap) ms) (hm : ms.length = m + 1) {cur : Array Value} (hcur : w.heap[g]? = some (.cells cur.toList.toArray 29 (0, 0))) (k : Nat) : ∀ v ∈ (cur.toList.take ((m + 1) * 3)).drop ((k + 1) * 3), v.oneCell' = true := by
  intro v hv
  have := S_one h cur (by simpa using hcur) v
  rw [hm] at this
  exact this (List.mem_of_mem_drop hv)
theorem pre_is {cap m k : Nat} (cur : List Value) (hc : cur.length = cap * 3) (h1 : m + 1 ≤ cap) (h2 : k < m + 1) (a b u : Value) :
    (((((splice cur (k * 3) ((cur.take ((m + 1) * 3)).drop ((k + 1) * 3))).toArray.setIfInBounds (m * 3) a).setIfInBounds (m * 3 + 1) b).setIfInBounds (m * 3 + 2) u).toList.take (m * 3)) = (cur.take ((m + 1) * 3)).take (k * 3) ++ (cur.take ((m + 1) * 3)).drop ((k + 1) * 3) := by
  simp only [Array.toList_setIfInBounds]
  rw [List.take_set_of_le (by omega), List.take_set_of_le (by omega), List.take_set_of_le (by omega)]
  apply List.ext_getElem?
  intro q
  simp only [splice, List.getElem?_take, List.getElem?_append, List.getElem?_drop, List.length_take, List.length_append, List.length_drop, hc]
  split <;> (repeat' split) <;> first | rfl | omega | (congr 1; omega) | (simp; omega) | skip
theorem take_fin {base r g g4 k m cap : Nat} {ok : Nat → Prop} {w w5 w6 : World} {ms : List S29} (hN : NetIs base ok w r (.slice (some ⟨g, 0, none⟩) (m + 1) cap) ms) (hB5 : Below w.heap.size w w5) (hm : ms.length = m + 1) (hk : k < ms.length) (cur : List Value) (hc : cur.length = cap * 3) (hcap : m + 1 ≤ cap) (hgb : base ≤ g)
    (hcu : w5.heap[g]? = some (.cells cur.toArray 29 (0, 0))) (hW6 : w6.heap[g]? = some (.cells (splice cur (k * 3) ((cur.take ((m + 1) * 3)).drop ((k + 1) * 3))).toArray 29 (0, 0))) (hG6 : w5.grownBy w6 (some g)) (h6 : w6.heap[r]? = some (.cells #[.slice (some ⟨g, 0, none⟩) (m + 1) cap] 57 (0, 0)))
    (cs4 : Array Value) (h46 : w6.heap[g4]? = some (.cells cs4 29 (0, 0))) (hg4 : w.heap.size ≤ g4) (hgl : g < w.heap.size) (hsl : (splice cur (k * 3) ((cur.take ((m + 1) * 3)).drop ((k + 1) * 3))).length = cap * 3) (a b u x y z : Value) (WF : World)
    (hWF : WF = (((((((w6.setCell ⟨g, m * 3, none⟩ a).setCell ⟨g, m * 3 + 1, none⟩ b).setCell ⟨g, m * 3 + 2, none⟩ u).setCell ⟨r, 0, none⟩ (.slice (some ⟨g, 0, none⟩) m cap)).setCell ⟨g4, 0, none⟩ x).setCell ⟨g4, 1, none⟩ y).setCell ⟨g4, 2, none⟩ z)) :
    NetIs base ok WF r (.slice (some ⟨g, 0, none⟩) m cap) (ms.eraseIdx k) ∧ Below base w WF ∧ (∀ q, q < w.heap.size → q ≠ g → q ≠ r → WF.heap[q]? = w.heap[q]?) ∧ WF.heap[g4]? = some (.cells (((cs4.setIfInBounds 0 x).setIfInBounds 1 y).setIfInBounds 2 z) 29 (0, 0)) := by
  have hrg : r ≠ g := blk_ne h6 hW6 (by decide)
  have h4g : g4 ≠ g := by omega
  have hr4 : r ≠ g4 := blk_ne h6 h46 (by decide)
  have hbr := hN.2.1
  have hrl := hN.lt
  have hgw : WF.heap[g]? = some (.cells ((((splice cur (k * 3) ((cur.take ((m + 1) * 3)).drop ((k + 1) * 3))).toArray.setIfInBounds (m * 3) a).setIfInBounds (m * 3 + 1) b).setIfInBounds (m * 3 + 2) u) 29 (0, 0)) := by
    rw [hWF]
    exact blk_far (p := ⟨g4, 2, none⟩) (blk_far (p := ⟨g4, 1, none⟩) (blk_far (p := ⟨g4, 0, none⟩) (blk_far (p := ⟨r, 0, none⟩) (blk_put (blk_put (blk_put hW6 (m * 3) a rfl) (m * 3 + 1) b rfl) (m * 3 + 2) u rfl) (Ne.symm hrg) _) (Ne.symm h4g) _) (Ne.symm h4g) _) (Ne.symm h4g) _
  have hmv : ∀ q, q < w.heap.size → q ≠ g → q ≠ r → WF.heap[q]? = w.heap[q]? := by
    intro q hq h1 h2
    have h3 : q ≠ g4 := by omega
    rw [hWF]
    rw [Below.heap_setCell _ ⟨g4, 2, none⟩ _ q h3, Below.heap_setCell _ ⟨g4, 1, none⟩ _ q h3, Below.heap_setCell _ ⟨g4, 0, none⟩ _ q h3, Below.heap_setCell _ ⟨r, 0, none⟩ _ q h2, Below.heap_setCell _ ⟨g, m * 3 + 2, none⟩ _ q h1, Below.heap_setCell _ ⟨g, m * 3 + 1, none⟩ _ q h1, Below.heap_setCell _ ⟨g, m * 3, none⟩ _ q h1]
    rw [hG6.block q (Nat.lt_of_lt_of_le hq hB5.size) (by simpa using h1), hB5.block q hq]
  refine ⟨⟨?_, hbr, ?_⟩, ?_, hmv, ?_⟩
  · rw [hWF]
    exact blk_far (p := ⟨g4, 2, none⟩) (blk_far (p := ⟨g4, 1, none⟩) (blk_far (p := ⟨g4, 0, none⟩) (blk_put (blk_far (p := ⟨g, m * 3 + 2, none⟩) (blk_far (p := ⟨g, m * 3 + 1, none⟩) (blk_far (p := ⟨g, m * 3, none⟩) h6 hrg _) hrg _) hrg _) 0 _ rfl) hr4 _) hr4 _) hr4 _
  · have hS := Kd.S_types (Kd.S_old hN.2.2 hB5) (blk_below hN.1 hB5) k29_types
    have := took hS hm.symm hk cur hcu _ hgw (by simp [hsl, hc]) (by rw [show ms.length - 1 = m by omega, hm]; exact pre_is cur hc hcap (by omega) a b u) (fun q hq hlt hne => by rw [hmv q hq.1.2 hne hq.2, hB5.block q hq.1.2])
    rw [show ms.length - 1 = m by omega] at this
    exact Kd.S_mono this (fun q hq => hq.1.1)
  · have h5 : Below base w w6 := (hB5.mono (by omega)).trans ⟨hG6.os, hG6.tape, hG6.output, hG6.size, fun q hq => hG6.block q (Nat.lt_of_lt_of_le (by omega) hB5.size) (by simp; omega)⟩
    rw [hWF]
    exact ((((((h5.setCell hgb _).setCell hgb _).setCell hgb _).setCell hbr _).setCell (by show base ≤ g4; omega) _).setCell (by show base ≤ g4; omega) _).setCell (by show base ≤ g4; omega) _
  · rw [hWF]
    exact blk_put (blk_put (blk_put (blk_far (p := ⟨r, 0, none⟩) (blk_far (p := ⟨g, m * 3 + 2, none⟩) (blk_far (p := ⟨g, m * 3 + 1, none⟩) (blk_far (p := ⟨g, m * 3, none⟩) h46 h4g _) h4g _) h4g _) (Ne.symm hr4) _) 0 x rfl) 1 y rfl) 2 z rfl
theorem cell_below {w w1 : World} (h : Below w.heap.size w w1) {a : Addr} {v : Value} (hc : w.cell? a = some v) : w1.cell? a = some v := (World.cell?_of_block (h.block _ (World.block_lt_of_cell? w a hc))).trans hc
set_option maxHeartbeats 4000000 in
set_option maxRecDepth 100000 in
theorem take_ok (base r k m : Nat) (ok : Nat → Prop) (ao : Option Addr) (cap : Nat) (ms : List S29) (p : S29) (w : World) (hN : NetIs base ok w r (.slice ao (m + 1) cap) ms) (hp : ms[k]? = some p) :
    Calls Try.prog 19 #[.pointer (some ⟨r, 0, none⟩), .int .i64 k] w fun e w' => ∃ A2 c2, e = .returned (.tuple #[.agg #[.int .i64 p.f0, .int .i64 p.f1, .slice A2 p.f2.length c2], .int .i64 0]) ∧ Kd.R (Kd.int .u8) 5 w' base ok (.slice A2 p.f2.length c2) p.f2 ∧ NetIs base ok w' r (.slice ao m cap) (ms.eraseIdx k) ∧ Below base w w' ∧ Kept w w' (fun k => k = r ∨ some k = (Value.slice ao (m + 1) cap).ownBlock) := by
  have hk : k < ms.length := (List.getElem?_eq_some_iff.1 hp).1
  have hml : ms.length = m + 1 := (Kd.S_reads' hN.2.2).1.symm
  have hkm : k < m + 1 := by omega
  have hk1 : (k : Int) ≤ m := by omega
  obtain ⟨g, cp, hv, hbg, hgl, _⟩ := Kd.S_form hN.2.2 (by omega)
  simp only [Value.slice.injEq] at hv
  obtain ⟨rfl, hx_, rfl⟩ := hv
  clear hx_
  obtain ⟨oki, c, hcl, hM, hcell, hoki, _⟩ := Kd.S_lend hN.2.2 z29 (k : Int) (by omega) (by omega)
  have hpe : ms.getD (k : Int).toNat z29 = p := by simp [List.getD, hp]
  rw [hpe] at hM
  obtain ⟨v2, rfl, hR⟩ := k29_openM hM
  obtain ⟨A2, c2, rfl⟩ := Kd.R_slice hR
  have hE : w.cell? ⟨g, k * 3, none⟩ = some (.int .i64 p.f0) ∧ w.cell? ⟨g, k * 3 + 1, none⟩ = some (.int .i64 p.f1) ∧ w.cell? ⟨g, k * 3 + 2, none⟩ = some (.slice A2 p.f2.length c2) := ⟨hcell 0 _ rfl, hcell 1 _ rfl, hcell 2 _ rfl⟩
  have hml := Lib.hid hml
  have hC1 := hN.cell
  have HN := Lib.hid hN
  have HR := Lib.hid (Kd.R_types hR hN.1 (by decide))
  have HP := Lib.hid hp
  have HO := Lib.hid hoki
  clear hN hR hM hcell hcl hpe hp hoki
  go_enter Try.func19, Try.ntmps19
  go_upto_region 5 with (first | ((with_reducible refine gate_dst (N := 4) rfl ?_); refine box_event ?hg (N := 4) ?hd (cs := #[.int .i64 0, .int .i64 0, .slice none 0 0]) (t := 29) ?hr ?_; (case hd => rfl); (case hg => rfl); (case hr => first | (go_simp; done) | (go_simp; rfl)); intro gb hg w1 hbox hb; obtain ⟨g4, rfl⟩ : ∃ g_, g_ = gb := ⟨_, rfl⟩; have hE_ := (⟨cell_below hb hE.1, cell_below hb hE.2.1, cell_below hb hE.2.2⟩ : _ ∧ _ ∧ _); have hC_ := cell_below hb hC1; have hB_ := Lib.hid hb; have h4 := Lib.hid hbox; have hg4 := Lib.hid (Nat.le_of_eq hg.symm); clear hE hC1; have hE := hE_; have hC1 := hC_; clear hE_ hC_ hb hbox hg) | ((with_reducible refine gate_dst (N := 8) rfl ?_); refine box_event ?hg (N := 8) ?hd (cs := #[.int .i64 0, .int .i64 0, .slice none 0 0]) (t := 29) ?hr ?_; (case hd => rfl); (case hg => rfl); (case hr => first | (go_simp; done) | (go_simp; rfl)); intro gb hg w1 hbox hb; obtain ⟨g8, rfl⟩ : ∃ g_, g_ = gb := ⟨_, rfl⟩; have hC_ := cell_below hb hC1; have hB2_ := Lib.hid (below_step hB_.out hb); have h4_ := blk_below h4.out hb; have hg8 := Lib.hid (Nat.le_trans hB_.out.size (Nat.le_of_eq hg.symm)); have h48 := Lib.hid (Nat.ne_of_lt (Nat.lt_of_lt_of_le (blk_lt h4.out) (Nat.le_of_eq hg.symm))); clear hC1 hB_ h4; have hC1 := hC_; have hB_ := hB2_; have h4 := Lib.hid h4_; have h8 := Lib.hid hbox; have z0 : World.cell? w1 ⟨g8, 0, none⟩ = some (.int .i64 0) := (blk_cell hbox 0).trans rfl; have zf0 := blk_frozen hbox 0; have z1 : World.cell? w1 ⟨g8, 1, none⟩ = some (.int .i64 0) := (blk_cell hbox 1).trans rfl; have zf1 := blk_frozen hbox 1; have z2 : World.cell? w1 ⟨g8, 2, none⟩ = some (.slice none 0 0) := (blk_cell hbox 2).trans rfl; have zf2 := blk_frozen hbox 2; clear hE hC_ hB2_ h4_ hb hbox hg) | ((with_reducible go_at_call 28); go_must (refine (at_in r _ _ (m + 1) cap k hkm _ hC1).mono ?_; (try simp only [Nat.zero_add]); rintro e w' ⟨rfl, rfl⟩)))
  refine world_gen (P := fun w5 => Below w.heap.size w w5 ∧ w5.heap[g4]? = some (.cells #[.int .i64 0, .int .i64 0, .slice none 0 0] 29 (0, 0)) ∧ w5.heap[g8]? = some (.cells #[.int .i64 p.f0, .int .i64 p.f1, .slice A2 p.f2.length c2] 29 (0, 0))) ⟨below_set (below_set (below_set hB_.out hg8.out) hg8.out) hg8.out, blk_far (p := ⟨g8, 2, none⟩) (blk_far (p := ⟨g8, 1, none⟩) (blk_far (p := ⟨g8, 0, none⟩) h4.out h48.out _) h48.out _) h48.out _, blk_put (blk_put (blk_put h8.out 0 (.int .i64 p.f0) rfl) 1 (.int .i64 p.f1) rfl) 2 (.slice A2 p.f2.length c2) rfl⟩ (fun w5 h5 => ?_)
  clear hC1 hB_ h4 h8 z0 z1 z2 zf0 zf1 zf2
  obtain ⟨p1, p2, p3⟩ := h5
  have hN5 := HN.out.kept p1
  have hC1 := hN5.cell
  obtain ⟨inner, hin, hv⟩ := Kd.S_own hN5.2.2
  rcases hv with ⟨hv, _⟩ | ⟨g', cap', cur, hv, _, hcur, hcap, hmax, hcs, _⟩
  · cases hv
  simp only [Value.slice.injEq, Option.some.injEq, Addr.mk.injEq] at hv
  obtain ⟨⟨rfl, _, _⟩, hy_, rfl⟩ := hv
  clear hy_
  have hcs3 : cur.size = cap * 3 := hcs
  have hcap' : m + 1 ≤ cap := by have := hml.out; omega
  have hcur' : w5.heap[g]? = some (.cells cur.toList.toArray 29 (0, 0)) := by simpa using hcur
  have hrg : r ≠ g := blk_ne hN5.1 hcur (by decide)
  have hk2 : (k : Int) ≤ (m : Int) + 1 := by omega
  have hck : ¬ cap = k := by omega
  have hmx : cap ≤ 9223372036854775807 := hmax
  have hwk : IntKind.i64.wrap ((k : Int) + 1) = (k : Int) + 1 := by rw [i64_w]; unfold wrap64; omega
  have hk3 : (0 : Int) ≤ (k : Int) + 1 := by omega
  have hk4 : ((k : Int) + 1).toNat = k + 1 := by omega
  have h4g : g4 ≠ g := by have := hg4.out; omega
  have h8g : g8 ≠ g := by have := hg8.out; omega
  have HN5 := Lib.hid hN5
  have HB5 := Lib.hid p1
  have h4 := Lib.hid p2
  have h8 := Lib.hid p3
  have HCU := Lib.hid hcur'
  clear p1 p2 p3 hN5 hcur hin hcs hcur'
  go_upto_region 6 with (first | fail)
  rcases Classical.em (cap = k + 1) with hcc | hcc
  · subst hcc
    go_region_law (first | ((refine step_copy_wide rfl (.tmp 34) (.tmp 41) 39 39 rfl 29 3 Try.underlying39 (by kernel_rfl) _ _ _ _ _ _ rfl rfl g (k * 3) cur.toList 29 HCU.out (m - k) ?hm ((cur.toList.take ((m + 1) * 3)).drop ((k + 1) * 3)) ?hn ?hpos ?hfit ?h1 ?_); (case hm => first | exact (Nat.min_eq_left (show m - k ≤ m + 1 - k by omega)).symm | (have hz_ : m - k = 0 := by omega; rw [hz_]; exact (Nat.min_eq_left (Nat.zero_le _)).symm) | (have hz_ : m - k = 0 := by omega; rw [hz_]; simp) | (simp only [Nat.min_def]; split <;> omega)); (case hn => exact cs_len cur hcs3 hcap' hkm); (case hpos => first | exact (fun h => ⟨rfl, ⟨g, (k + 1) * 3, none⟩, if_neg (by omega), cs_cells HCU.out⟩) | exact (fun h => absurd h (by omega)) | exact (fun h => ⟨rfl, ⟨g, (k + 1) * 3, none⟩, rfl, cs_cells HCU.out⟩) | exact (fun h => absurd h (by omega))); (case hfit => exact cs_fit cur hcs3 hcap' hkm); (case h1 => exact cs_one HN5.out.2.2 hml.out HCU.out k); intro w6 hw6 hg6 hs6; have hg6 : World.grownBy w5 w6 (some g) := ⟨hg6.os, hg6.tape, hg6.output, hg6.size, hg6.block⟩; have hs6 : w6.heap.size = w5.heap.size := hs6; have hC6 := (blk_grown HN5.out.1 hg6 (by simpa using hrg)); have hr6 : w6.cell? ⟨r, 0, none⟩ = some (.slice (some ⟨g, 0, none⟩) (m + 1) (k + 1)) := (blk_cell hC6 0).trans rfl; have hrf6 := blk_frozen hC6 0; have h46 := blk_grown h4.out hg6 (by simpa using h4g); have h86 := blk_grown h8.out hg6 (by simpa using h8g); have H6 := Lib.hid hC6; have HW6 := Lib.hid hw6; have HG6 := Lib.hid hg6; have H46 := Lib.hid h46; have H86 := Lib.hid h86; have HS6 := Lib.hid hs6; clear hC6 hw6 hg6 h46 h86 hs6))
    all_goals
      have hlen : (splice cur.toList (k * 3) ((cur.toList.take ((m + 1) * 3)).drop ((k + 1) * 3))).length = (k + 1) * 3 := by rw [length_splice _ _ _ (cs_fit cur hcs3 hcap' hkm), Array.length_toList, hcs3]
      obtain ⟨u0, hu0⟩ : ∃ u, w6.cell? ⟨g, m * 3, none⟩ = some u := ⟨_, (blk_cell HW6.out (m * 3)).trans (Array.getElem?_eq_getElem (by simp only [List.size_toArray]; omega))⟩
      obtain ⟨u1, hu1⟩ : ∃ u, w6.cell? ⟨g, m * 3 + 1, none⟩ = some u := ⟨_, (blk_cell HW6.out (m * 3 + 1)).trans (Array.getElem?_eq_getElem (by simp only [List.size_toArray]; omega))⟩
      obtain ⟨u2, hu2⟩ : ∃ u, w6.cell? ⟨g, m * 3 + 2, none⟩ = some u := ⟨_, (blk_cell HW6.out (m * 3 + 2)).trans (Array.getElem?_eq_getElem (by simp only [List.size_toArray]; omega))⟩
      have hf0 := blk_frozen HW6.out (m * 3)
      have hf1 := blk_frozen HW6.out (m * 3 + 1)
      have hf2 := blk_frozen HW6.out (m * 3 + 2)
      have y0 : w6.cell? ⟨g8, 0, none⟩ = some (.int .i64 p.f0) := (blk_cell H86.out 0).trans rfl
      have y1 : w6.cell? ⟨g8, 1, none⟩ = some (.int .i64 p.f1) := (blk_cell H86.out 1).trans rfl
      have y2 : w6.cell? ⟨g8, 2, none⟩ = some (.slice A2 p.f2.length c2) := (blk_cell H86.out 2).trans rfl
      have z0 : w6.cell? ⟨g4, 0, none⟩ = some (.int .i64 0) := (blk_cell H46.out 0).trans rfl
      have z1 : w6.cell? ⟨g4, 1, none⟩ = some (.int .i64 0) := (blk_cell H46.out 1).trans rfl
      have z2 : w6.cell? ⟨g4, 2, none⟩ = some (.slice none 0 0) := (blk_cell H46.out 2).trans rfl
      have zf0 := blk_frozen H46.out 0
      have zf1 := blk_frozen H46.out 1
      have zf2 := blk_frozen H46.out 2
      have h8r := blk_ne H6.out H86.out (by decide)
      have h4r := blk_ne H6.out H46.out (by decide)
      have hm0 : (0 : Int) ≤ m := by omega
      have hm1 : (m : Int) < (m : Int) + 1 := by omega
      have hm2 : (m : Int) ≤ (m : Int) + 1 := by omega
      clear hC1
      have HLN := Lib.hid hlen
      clear hlen
      go_wp2
      all_goals
        obtain ⟨q1, q2, q3, q4⟩ := take_fin HN.out HB5.out hml.out hk cur.toList (by simpa using hcs3) hcap' hbg HCU.out HW6.out HG6.out H6.out _ H46.out hg4.out hgl HLN.out (.int .i64 0) (.int .i64 0) (.slice none 0 0) (.int .i64 p.f0) (.int .i64 p.f1) (.slice A2 p.f2.length c2) _ rfl
        refine bodyPost_ret (results_ct rfl _ _ g4 29 #[.int .i64 p.f0, .int .i64 p.f1, .slice A2 p.f2.length c2] (0, 0) _ rfl q4 Try.underlying29 rfl (by kernel_rfl)) rfl ?_
        have hR7 := Kd.R_step HR.out (fun b hb hlt => q3 b hlt (HO.out b hb.1).2 hb.2)
        exact ⟨A2, c2, rfl, Kd.R_mono hR7 (fun b hb => (HO.out b hb.1).1), q1, q2, q2.size, fun q hq hn => q3 q hq (fun e => hn (.inr (by rw [e]; rfl))) (fun e => hn (.inl e))⟩
  · go_region_law (first | ((refine step_copy_wide rfl (.tmp 34) (.tmp 41) 39 39 rfl 29 3 Try.underlying39 (by kernel_rfl) _ _ _ _ _ _ rfl rfl g (k * 3) cur.toList 29 HCU.out (m - k) ?hm ((cur.toList.take ((m + 1) * 3)).drop ((k + 1) * 3)) ?hn ?hpos ?hfit ?h1 ?_); (case hm => first | exact (Nat.min_eq_left (show m - k ≤ m + 1 - k by omega)).symm | (have hz_ : m - k = 0 := by omega; rw [hz_]; exact (Nat.min_eq_left (Nat.zero_le _)).symm) | (have hz_ : m - k = 0 := by omega; rw [hz_]; simp) | (simp only [Nat.min_def]; split <;> omega)); (case hn => exact cs_len cur hcs3 hcap' hkm); (case hpos => first | exact (fun h => ⟨rfl, ⟨g, (k + 1) * 3, none⟩, if_neg (by omega), cs_cells HCU.out⟩) | exact (fun h => absurd h (by omega)) | exact (fun h => ⟨rfl, ⟨g, (k + 1) * 3, none⟩, rfl, cs_cells HCU.out⟩) | exact (fun h => absurd h (by omega))); (case hfit => exact cs_fit cur hcs3 hcap' hkm); (case h1 => exact cs_one HN5.out.2.2 hml.out HCU.out k); intro w6 hw6 hg6 hs6; have hg6 : World.grownBy w5 w6 (some g) := ⟨hg6.os, hg6.tape, hg6.output, hg6.size, hg6.block⟩; have hs6 : w6.heap.size = w5.heap.size := hs6; have hC6 := (blk_grown HN5.out.1 hg6 (by simpa using hrg)); have hr6 : w6.cell? ⟨r, 0, none⟩ = some (.slice (some ⟨g, 0, none⟩) (m + 1) cap) := (blk_cell hC6 0).trans rfl; have hrf6 := blk_frozen hC6 0; have h46 := blk_grown h4.out hg6 (by simpa using h4g); have h86 := blk_grown h8.out hg6 (by simpa using h8g); have H6 := Lib.hid hC6; have HW6 := Lib.hid hw6; have HG6 := Lib.hid hg6; have H46 := Lib.hid h46; have H86 := Lib.hid h86; have HS6 := Lib.hid hs6; clear hC6 hw6 hg6 h46 h86 hs6))
    all_goals
      have hlen : (splice cur.toList (k * 3) ((cur.toList.take ((m + 1) * 3)).drop ((k + 1) * 3))).length = cap * 3 := by rw [length_splice _ _ _ (cs_fit cur hcs3 hcap' hkm), Array.length_toList, hcs3]
      obtain ⟨u0, hu0⟩ : ∃ u, w6.cell? ⟨g, m * 3, none⟩ = some u := ⟨_, (blk_cell HW6.out (m * 3)).trans (Array.getElem?_eq_getElem (by simp only [List.size_toArray]; omega))⟩
      obtain ⟨u1, hu1⟩ : ∃ u, w6.cell? ⟨g, m * 3 + 1, none⟩ = some u := ⟨_, (blk_cell HW6.out (m * 3 + 1)).trans (Array.getElem?_eq_getElem (by simp only [List.size_toArray]; omega))⟩
      obtain ⟨u2, hu2⟩ : ∃ u, w6.cell? ⟨g, m * 3 + 2, none⟩ = some u := ⟨_, (blk_cell HW6.out (m * 3 + 2)).trans (Array.getElem?_eq_getElem (by simp only [List.size_toArray]; omega))⟩
      have hf0 := blk_frozen HW6.out (m * 3)
      have hf1 := blk_frozen HW6.out (m * 3 + 1)
      have hf2 := blk_frozen HW6.out (m * 3 + 2)
      have y0 : w6.cell? ⟨g8, 0, none⟩ = some (.int .i64 p.f0) := (blk_cell H86.out 0).trans rfl
      have y1 : w6.cell? ⟨g8, 1, none⟩ = some (.int .i64 p.f1) := (blk_cell H86.out 1).trans rfl
      have y2 : w6.cell? ⟨g8, 2, none⟩ = some (.slice A2 p.f2.length c2) := (blk_cell H86.out 2).trans rfl
      have z0 : w6.cell? ⟨g4, 0, none⟩ = some (.int .i64 0) := (blk_cell H46.out 0).trans rfl
      have z1 : w6.cell? ⟨g4, 1, none⟩ = some (.int .i64 0) := (blk_cell H46.out 1).trans rfl
      have z2 : w6.cell? ⟨g4, 2, none⟩ = some (.slice none 0 0) := (blk_cell H46.out 2).trans rfl
      have zf0 := blk_frozen H46.out 0
      have zf1 := blk_frozen H46.out 1
      have zf2 := blk_frozen H46.out 2
      have h8r := blk_ne H6.out H86.out (by decide)
      have h4r := blk_ne H6.out H46.out (by decide)
      have hm0 : (0 : Int) ≤ m := by omega
      have hm1 : (m : Int) < (m : Int) + 1 := by omega
      have hm2 : (m : Int) ≤ (m : Int) + 1 := by omega
      clear hC1
      have HLN := Lib.hid hlen
      clear hlen
      go_wp2
      all_goals
        obtain ⟨q1, q2, q3, q4⟩ := take_fin HN.out HB5.out hml.out hk cur.toList (by simpa using hcs3) hcap' hbg HCU.out HW6.out HG6.out H6.out _ H46.out hg4.out hgl HLN.out (.int .i64 0) (.int .i64 0) (.slice none 0 0) (.int .i64 p.f0) (.int .i64 p.f1) (.slice A2 p.f2.length c2) _ rfl
        refine bodyPost_ret (results_ct rfl _ _ g4 29 #[.int .i64 p.f0, .int .i64 p.f1, .slice A2 p.f2.length c2] (0, 0) _ rfl q4 Try.underlying29 rfl (by kernel_rfl)) rfl ?_
        have hR7 := Kd.R_step HR.out (fun b hb hlt => q3 b hlt (HO.out b hb.1).2 hb.2)
        exact ⟨A2, c2, rfl, Kd.R_mono hR7 (fun b hb => (HO.out b hb.1).1), q1, q2, q2.size, fun q hq hn => q3 q hq (fun e => hn (.inr (by rw [e]; rfl))) (fun e => hn (.inl e))⟩
end Go.Proofs.Ytglhojkchpbnkaa.NetTake
