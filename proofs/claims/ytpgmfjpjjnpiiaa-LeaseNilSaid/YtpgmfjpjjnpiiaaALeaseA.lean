/- PROVED: the elector in memory. No condition beyond what each line says. -/
import Derived.Test.YtpgmfjpjjnpiiaaALeaseP
import Derived.Test.YtpgmfjpjjnpiiaaALRead
import Derived.Test.YtpgmfjpjjnpiiaaAWApart
import Derived.Test.YtpgmfjpjjnpiiaaAWKept
import Derived.WalkKit
import Derived.WalkSpells
import Derived.WalkLawsBesides
import Derived.Outline
import Derived.Lib.Hide
import Derived.Deep.LoopGhost
import Derived.Deep.RegionHeld3
import Derived.Deep.DeepCutAuto
import Derived.Deep.RegionLaw
import Derived.BigQuiet
import Derived.Deep.QuietTactic
namespace Go.Proofs.Ytpgmfjpjjnpiiaa.LeaseA
open Go.RowKit Go.Proofs.Ytpgmfjpjjnpiiaa.PLeaseWakes Go.Proofs.YtpgmfjpjjnpiiaaW.PrintWords Go.Proofs.YtpgmfjpjjnpiiaaW.PrintLast Go.Proofs.YtpgmfjpjjnpiiaaW.PrintMore
attribute [local go_sem] max2_int min2_int max_two min_two max_three min_three max_four min_four
set_option linter.unusedSimpArgs false
set_option linter.unusedVariables false
/-- Something in memory: what it says of a world, over blocks of its own. -/
structure Thing where
  H : World → Nat → (Nat → Prop) → Prop
  mono : ∀ {w base ok ok'}, (∀ k, ok k → ok' k) → H w base ok → H w base ok'
  bound : ∀ {w : World} {base ok}, H w base ok → H w base (fun k => ok k ∧ k < w.heap.size)
  lower : ∀ {w base base' ok}, base' ≤ base → H w base ok → H w base' ok
  step : ∀ {w w1 : World} {base ok}, H w base ok → w.heap.size ≤ w1.heap.size → (∀ k, ok k → k < w.heap.size → w1.heap[k]? = w.heap[k]?) → H w1 base ok
/-- Things that lie apart. -/
def Apt (base : Nat) (w : World) (ts : List Thing) : Prop := ∃ O : Nat → Nat → Prop, (∀ i j k, O i k → O j k → i = j) ∧ (∀ i k, O i k → k < w.heap.size) ∧ ∀ (i : Nat) (t : Thing), ts[i]? = some t → t.H w base (O i)
section
variable {base : Nat} {w w1 : World} {ts : List Thing} {t : Thing}
theorem Apt.none_ (base : Nat) (w : World) : Apt base w [] := ⟨fun _ _ => False, fun _ _ _ h => h.elim, fun _ _ h => h.elim, fun i t h => by simp at h⟩
theorem Apt.below (h : Apt base w ts) (hb : Below w.heap.size w w1) : Apt base w1 ts := by
  obtain ⟨O, h1, h2, h3⟩ := h
  exact ⟨O, h1, fun i k hk => Nat.lt_of_lt_of_le (h2 i k hk) hb.size, fun i t ht => t.step (h3 i t ht) hb.size (fun k _ hk => hb.block k hk)⟩
theorem Apt.add (h : Apt base w ts) (hb : Below w.heap.size w w1) (ht : t.H w1 base (fun k => w.heap.size ≤ k)) : Apt base w1 (ts ++ [t]) := by
  obtain ⟨O, h1, h2, h3⟩ := h
  refine ⟨fun i k => if i < ts.length then O i k else i = ts.length ∧ w.heap.size ≤ k ∧ k < w1.heap.size, fun i j k hi hj => ?_, fun i k hk => ?_, fun i t' ht' => ?_⟩
  · dsimp only at hi hj
    split at hi <;> split at hj
    · exact h1 i j k hi hj
    · have := h2 i k hi; omega
    · have := h2 j k hj; omega
    · omega
  · dsimp only at hk
    split at hk
    · exact Nat.lt_of_lt_of_le (h2 i k hk) hb.size
    · exact hk.2.2
  · by_cases q : i < ts.length
    · rw [List.getElem?_append_left q] at ht'
      simp only [if_pos q]
      exact t'.step (h3 i t' ht') hb.size (fun k _ hk => hb.block k hk)
    · rw [List.getElem?_append_right (by omega)] at ht'
      have hi : i = ts.length := by
        by_cases q2 : i - ts.length = 0
        · omega
        · rw [List.getElem?_eq_none (by simp; omega)] at ht'
          cases ht'
      subst hi
      simp only [Nat.sub_self, List.getElem?_cons_zero, Option.some.injEq] at ht'
      subst ht'
      simp only [Nat.lt_irrefl, if_false, true_and]
      exact t.mono (fun k hk => hk) (t.bound ht)
theorem Apt.lower {base' : Nat} (h : Apt base w ts) (hb : base' ≤ base) : Apt base' w ts := by
  obtain ⟨O, h1, h2, h3⟩ := h
  exact ⟨O, h1, h2, fun i t ht => t.lower hb (h3 i t ht)⟩
theorem Apt.take (h : Apt base w ts) (n : Nat) : Apt base w (ts.take n) := by
  obtain ⟨O, h1, h2, h3⟩ := h
  refine ⟨O, h1, h2, fun i t ht => h3 i t ?_⟩
  rw [List.getElem?_take] at ht
  split at ht
  · exact ht
  · cases ht
theorem Apt.get (h : Apt base w ts) {i : Nat} (ht : ts[i]? = some t) : ∃ U, t.H w base U := by
  obtain ⟨O, h1, h2, h3⟩ := h
  exact ⟨_, h3 i t ht⟩
/-- One of the things is opened; what becomes of it is put back. -/
theorem Apt.op (h : Apt base w ts) {i : Nat} (ht : ts[i]? = some t) : ∃ U, t.H w base U ∧ (∀ j t', j ≠ i → ts[j]? = some t' → t'.H w base (fun k => ¬ U k)) ∧
    ∀ (w1 : World) (t1 : Thing), w.heap.size ≤ w1.heap.size → t1.H w1 base (fun k => U k ∨ w.heap.size ≤ k) → Kept w w1 U → Apt base w1 (ts.set i t1) := by
  obtain ⟨O, h1, h2, h3⟩ := h
  refine ⟨O i, h3 i t ht, fun j t' hj ht' => t'.mono (fun k hk hk' => hj (h1 j i k hk hk')) (h3 j t' ht'), fun w1 t1 hs hH hK => ?_⟩
  refine ⟨fun j k => if j = i then (O i k ∨ w.heap.size ≤ k) ∧ k < w1.heap.size else O j k, fun a b k ha hb => ?_, fun j k hk => ?_, fun j t' ht' => ?_⟩
  · dsimp only at ha hb
    split at ha <;> split at hb
    · omega
    · rename_i q1 q2
      rcases ha.1 with ha | ha
      · rw [q1]; exact h1 i b k ha hb
      · have := h2 b k hb; omega
    · rename_i q1 q2
      rcases hb.1 with hb | hb
      · rw [q2]; exact h1 a i k ha hb
      · have := h2 a k ha; omega
    · exact h1 a b k ha hb
  · dsimp only at hk
    split at hk
    · exact hk.2
    · exact Nat.lt_of_lt_of_le (h2 j k hk) hs
  · by_cases q : j = i
    · subst q
      have hl : j < ts.length := (List.getElem?_eq_some_iff.1 ht).1
      rw [List.getElem?_set_self hl] at ht'
      injection ht' with ht'
      subst ht'
      simp only [if_true]
      exact t1.bound hH
    · rw [List.getElem?_set_ne (Ne.symm q)] at ht'
      simp only [if_neg q]
      exact t'.step (h3 j t' ht') hs (fun k hk hl => hK.2 k hl (fun hu => q (h1 j i k hk hu)))
end
/-- The state of an elector. -/
structure ES where
  me : Int
  n : Int
  lease : Int
  safe : Int
  now : Int
  ve : Int
  vh : Int
  vu : Int
  vs : Int
  a0 : Int
  a1 : Int
  a2 : Int
  opn : Bool
  gr : List S36
  led : Int
  unt : Int
  next : Int
  heard : Int
def cellsE (s : ES) (v : Value) : Array Value := #[.int .i64 s.me, .int .i64 s.n, .int .i64 s.lease, .int .i64 s.safe, .int .i64 s.now, .int .i64 s.ve, .int .i64 s.vh, .int .i64 s.vu, .int .i64 s.vs, .int .i64 s.a0, .int .i64 s.a1, .int .i64 s.a2, .bool s.opn, v, .int .i64 s.led, .int .i64 s.unt, .int .i64 s.next, .int .i64 s.heard]
/-- An elector at block r, whose row of replies is v. -/
def EIs (base : Nat) (ok : Nat → Prop) (w : World) (r : Nat) (v : Value) (s : ES) : Prop := w.heap[r]? = some (.cells (cellsE s v) 58 (0, 0)) ∧ base ≤ r ∧ Kd.R k36 36 w base ok v s.gr
section
variable {base : Nat} {ok ok' : Nat → Prop} {w w1 : World} {r : Nat} {v : Value} {s : ES}
theorem EIs.cells (h : EIs base ok w r v s) : w.cell? ⟨r, 0, none⟩ = some (.int .i64 s.me) ∧ w.cell? ⟨r, 1, none⟩ = some (.int .i64 s.n) ∧ w.cell? ⟨r, 2, none⟩ = some (.int .i64 s.lease) ∧ w.cell? ⟨r, 3, none⟩ = some (.int .i64 s.safe) ∧ w.cell? ⟨r, 4, none⟩ = some (.int .i64 s.now) ∧ w.cell? ⟨r, 5, none⟩ = some (.int .i64 s.ve) ∧ w.cell? ⟨r, 6, none⟩ = some (.int .i64 s.vh) ∧ w.cell? ⟨r, 7, none⟩ = some (.int .i64 s.vu) ∧ w.cell? ⟨r, 8, none⟩ = some (.int .i64 s.vs) ∧ w.cell? ⟨r, 9, none⟩ = some (.int .i64 s.a0) ∧ w.cell? ⟨r, 10, none⟩ = some (.int .i64 s.a1) ∧ w.cell? ⟨r, 11, none⟩ = some (.int .i64 s.a2) ∧ w.cell? ⟨r, 12, none⟩ = some (.bool s.opn) ∧ w.cell? ⟨r, 13, none⟩ = some (v) ∧ w.cell? ⟨r, 14, none⟩ = some (.int .i64 s.led) ∧ w.cell? ⟨r, 15, none⟩ = some (.int .i64 s.unt) ∧ w.cell? ⟨r, 16, none⟩ = some (.int .i64 s.next) ∧ w.cell? ⟨r, 17, none⟩ = some (.int .i64 s.heard) :=
  ⟨(blk_cell h.1 0).trans rfl, (blk_cell h.1 1).trans rfl, (blk_cell h.1 2).trans rfl, (blk_cell h.1 3).trans rfl, (blk_cell h.1 4).trans rfl, (blk_cell h.1 5).trans rfl, (blk_cell h.1 6).trans rfl, (blk_cell h.1 7).trans rfl, (blk_cell h.1 8).trans rfl, (blk_cell h.1 9).trans rfl, (blk_cell h.1 10).trans rfl, (blk_cell h.1 11).trans rfl, (blk_cell h.1 12).trans rfl, (blk_cell h.1 13).trans rfl, (blk_cell h.1 14).trans rfl, (blk_cell h.1 15).trans rfl, (blk_cell h.1 16).trans rfl, (blk_cell h.1 17).trans rfl⟩
theorem EIs.free (h : EIs base ok w r v s) (i : Nat) : w.frozen? ⟨r, i, none⟩ = false := blk_frozen h.1 i
theorem EIs.lt (h : EIs base ok w r v s) : r < w.heap.size := blk_lt h.1
theorem EIs.kept (h : EIs base ok w r v s) (hb : Below w.heap.size w w1) : EIs base ok w1 r v s := ⟨blk_below h.1 hb, h.2.1, Kd.R_below h.2.2 hb⟩
theorem EIs.mono (h : EIs base ok w r v s) (ho : ∀ k, ok k → ok' k) : EIs base ok' w r v s := ⟨h.1, h.2.1, Kd.R_mono h.2.2 ho⟩
theorem k36_t58 : ∀ q, q ∈ 36 :: k36.E → q ≠ 58 := by decide
/-- A cell that is no row is another one. -/
theorem EIs.put (h : EIs base ok w r v s) {s' : ES} (j : Nat) (x : Value) (hc : (cellsE s v).setIfInBounds j x = cellsE s' v) (hg : s'.gr = s.gr) : EIs base ok (w.setCell ⟨r, j, none⟩ x) r v s' :=
  ⟨by rw [← hc]; exact blk_put h.1 j x rfl, h.2.1, by
    rw [hg]
    exact Kd.R_mono (Kd.R_far (p := ⟨r, j, none⟩) (Kd.R_types h.2.2 h.1 k36_t58) (fun _ hk => hk.2) x) (fun _ hk => hk.1)⟩
theorem EIs.keep (h : EIs base ok w r v s) (j : Nat) (x : Value) : Below base w (w.setCell ⟨r, j, none⟩ x) ∧ Kept w (w.setCell ⟨r, j, none⟩ x) (fun k => k = r) :=
  ⟨(Below.refl _ _).setCell h.2.1 _, ((Below.refl _ _).setCell h.2.1 _).size, fun k hk hn => Below.heap_setCell _ ⟨r, j, none⟩ _ k hn⟩
end
/-- The elector as a thing. -/
def elT (r : Nat) (s : ES) : Thing where
  H := fun w base ok => ∃ okl v, EIs base okl w r v s ∧ ok r ∧ ∀ k, okl k → ok k ∧ k ≠ r
  mono := fun h ⟨okl, v, hN, hr, ho⟩ => ⟨okl, v, hN, h _ hr, fun k hk => ⟨h _ (ho k hk).1, (ho k hk).2⟩⟩
  bound := fun {w base ok} ⟨okl, v, hN, hr, ho⟩ => ⟨fun k => okl k ∧ k < w.heap.size, v, ⟨hN.1, hN.2.1, Kd.R_mono (Kd.R_bound hN.2.2) (fun k hk => ⟨hk.1, hk.2.2.1⟩)⟩, ⟨hr, hN.lt⟩, fun k hk => ⟨⟨(ho k hk.1).1, hk.2⟩, (ho k hk.1).2⟩⟩
  lower := fun hb ⟨okl, v, hN, hr, ho⟩ => ⟨okl, v, ⟨hN.1, Nat.le_trans hb hN.2.1, Kd.R_lower hN.2.2 hb⟩, hr, ho⟩
  step := fun ⟨okl, v, hN, hr, ho⟩ hs hm => ⟨okl, v, ⟨by rw [hm _ hr hN.lt]; exact hN.1, hN.2.1, Kd.R_step hN.2.2 (fun k hk hl => hm k (ho k hk).1 hl)⟩, hr, ho⟩
/-- What happens to the numbers. -/
def toldS (s : ES) (t : Int) : ES := { s with now := mx s.now (mn t 1099511627776) }
def leadsB (s : ES) : Bool := decide (s.led ≠ 0) && decide (s.now < s.unt)
def pauseS (s : ES) : ES := { s with next := s.now + s.lease + 16 * (s.me + 1) }
set_option maxHeartbeats 4000000 in
set_option maxRecDepth 100000 in
theorem told_ok (base r : Nat) (ok : Nat → Prop) (v : Value) (s : ES) (t : Int) (w : World) (h : EIs base ok w r v s) :
    Calls Try.prog 29 #[.pointer (some ⟨r, 0, none⟩), .int .i64 t] w fun e w' => e = .returned (.tuple #[]) ∧ EIs base ok w' r v (toldS s t) ∧ Below base w w' ∧ Kept w w' (fun k => k = r) := by
  obtain ⟨c0, c1, c2, c3, c4, c5, c6, c7, c8, c9, c10, c11, c12, c13, c14, c15, c16, c17⟩ := h.cells
  have f4 := h.free 4
  have H := Lib.hid h
  clear h
  have key : ∀ y : Int, y = mx s.now (mn t 1099511627776) → EIs base ok (w.setCell ⟨r, 4, none⟩ (.int .i64 y)) r v (toldS s t) ∧ Below base w (w.setCell ⟨r, 4, none⟩ (.int .i64 y)) ∧ Kept w (w.setCell ⟨r, 4, none⟩ (.int .i64 y)) (fun k => k = r) := by
    intro y hy
    subst hy
    exact ⟨H.out.put 4 _ rfl rfl, H.out.keep 4 _⟩
  have KEY := Lib.hid key
  clear key
  go_enter Try.func29, Try.ntmps29
  go_wp2
  all_goals
    go_end0
    exact ⟨rfl, KEY.out _ (by unfold mx mn; (repeat' split) <;> omega)⟩
set_option maxHeartbeats 4000000 in
set_option maxRecDepth 100000 in
theorem leads_ok (base r : Nat) (ok : Nat → Prop) (v : Value) (s : ES) (w : World) (h : EIs base ok w r v s) :
    Calls Try.prog 33 #[.pointer (some ⟨r, 0, none⟩)] w fun e w' => e = .returned (.bool (leadsB s)) ∧ EIs base ok w' r v s ∧ Below w.heap.size w w' := by
  obtain ⟨c0, c1, c2, c3, c4, c5, c6, c7, c8, c9, c10, c11, c12, c13, c14, c15, c16, c17⟩ := h.cells
  have H := Lib.hid h
  clear h
  unfold leadsB
  by_cases q : s.led = 0
  · go_enter Try.func33, Try.ntmps33
    go_wp2
    go_quiet (fail)
    go_wp2
    go_ret
    exact ⟨by simp [q], H.out.kept (pw_below_drewN (Below.refl _ _) _), pw_below_drewN (Below.refl _ _) _⟩
  · have q1 : (s.led == 0) = false := beq_eq_false_iff_ne.mpr q
    have q2 : (s.led != 0) = true := bne_iff_ne.mpr q
    go_enter Try.func33, Try.ntmps33
    go_wp2
    go_quiet (fail)
    go_wp2
    go_ret
    exact ⟨by simp [q], H.out.kept (pw_below_drewN (Below.refl _ _) _), pw_below_drewN (Below.refl _ _) _⟩
set_option maxHeartbeats 4000000 in
set_option maxRecDepth 100000 in
theorem pause_ok (base r : Nat) (ok : Nat → Prop) (v : Value) (s : ES) (w : World) (h : EIs base ok w r v s) (h1 : 0 ≤ s.now ∧ s.now ≤ 1099511627776) (h2 : 0 ≤ s.lease ∧ s.lease ≤ 1000) (h3 : 0 ≤ s.me ∧ s.me ≤ 5) :
    Calls Try.prog 34 #[.pointer (some ⟨r, 0, none⟩)] w fun e w' => e = .returned (.tuple #[]) ∧ EIs base ok w' r v (pauseS s) ∧ Below base w w' ∧ Kept w w' (fun k => k = r) := by
  obtain ⟨c0, c1, c2, c3, c4, c5, c6, c7, c8, c9, c10, c11, c12, c13, c14, c15, c16, c17⟩ := h.cells
  have f11 := h.free 16
  have H := Lib.hid h
  clear h
  have e1 : IntKind.i64.wrap (s.now + s.lease) = s.now + s.lease := by rw [i64_w]; unfold wrap64; omega
  have e2 : IntKind.i64.wrap (s.me + 1) = s.me + 1 := by rw [i64_w]; unfold wrap64; omega
  have e3 : IntKind.i64.wrap (16 * (s.me + 1)) = 16 * (s.me + 1) := by rw [i64_w]; unfold wrap64; omega
  have e4 : IntKind.i64.wrap (s.now + s.lease + 16 * (s.me + 1)) = s.now + s.lease + 16 * (s.me + 1) := by rw [i64_w]; unfold wrap64; omega
  go_enter Try.func34, Try.ntmps34
  go_region_law (first | fail)
  all_goals
    go_end0
    have hk := H.out.keep 16 (.int .i64 (s.now + s.lease + 16 * (s.me + 1)))
    exact ⟨rfl, (H.out.put (s' := pauseS s) 16 _ rfl rfl).kept (below_drew1 (Below.refl _ _)), below_drew1 hk.1, hk.2⟩
end Go.Proofs.Ytpgmfjpjjnpiiaa.LeaseA
