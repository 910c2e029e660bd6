/- PROVED: lemmas that the row uses (cut copies of my texts and of the printed ones). No condition beyond what each line says. -/
import Derived.Test.YtpgmfjpjjnpiiaaBWAll
import Derived.Below
import Derived.Test.YtpgmfjpjjnpiiaaBLeaseP
import Derived.WalkKit
import Derived.WalkSpells
import Derived.WalkLawsBesides
import Derived.Outline
import Derived.Lib.Hide
import Derived.Deep.LoopGhost
import Derived.Deep.RegionHeld3
import Derived.Deep.DeepCutAuto
import Derived.Deep.RegionLaw
import Derived.BigQuiet
import Derived.Deep.QuietTactic
section
namespace Go.Proofs.Ytpgmfjpjjnpiiaa.LRead
open Go.RowKit Go.Proofs.YtpgmfjpjjnpiiaaW.PrintWords
set_option linter.unusedSimpArgs false
theorem spot_none {w : World} {a : Addr} {v : Value} (h : w.cell? a = some v) : a.spot = none := by
  unfold World.cell? at h
  split at h
  · split at h
    · simp at h
    · rename_i hs
      simpa using hs
  · simp at h
/-- Where a slice that isn't empty lies, and what its elements' cells say. -/
theorem C_addr {α : Type} {d : Kd α} {w : World} {A : Option Addr} {xs : List α} (h : d.C w A xs.length xs) (hs : 0 < d.sz) (hx : 0 < xs.length) :
    ∃ b off, A = some ⟨b, off, none⟩ ∧ b < w.heap.size ∧ ∀ k p, xs[k]? = some p → ∃ c, c.length = d.sz ∧ d.K w p c ∧ ∀ j u, c[j]? = some u → w.cell? ⟨b, off + k * d.sz + j, none⟩ = some u := by
  obtain ⟨_, _, h⟩ := h
  obtain ⟨ad, rfl, hc⟩ := h hx
  have hsp : ad.spot = none ∧ ad.block < w.heap.size := by
    obtain ⟨c, hcl, _, hcell⟩ := hc 0 xs[0] (by simp)
    have hc0 : c[0]? = some (c[0]'(by omega)) := by simp
    have := hcell 0 _ hc0
    rw [Nat.zero_mul] at this
    exact ⟨spot_none (by simpa [Addr.add] using this), World.block_lt_of_cell? w ad (by simpa [Addr.add] using this)⟩
  obtain ⟨b, off, sp⟩ := ad
  simp only at hsp
  obtain ⟨rfl, hb⟩ := hsp
  refine ⟨b, off, rfl, hb, fun k p hp => ?_⟩
  obtain ⟨c, hcl, hK, hcell⟩ := hc k p hp
  refine ⟨c, hcl, hK, fun j u hu => ?_⟩
  have := hcell j u hu
  have e : (⟨b, off, none⟩ : Addr).add (k * d.sz + j) = ⟨b, off + k * d.sz + j, none⟩ := by
    unfold Addr.add
    split
    · simp_all
    · simp [Nat.add_assoc]
  rw [e] at this
  exact this
end Go.Proofs.Ytpgmfjpjjnpiiaa.LRead
end
section
namespace Go.Proofs.Ytpgmfjpjjnpiiaa.LeaseA
open Go.RowKit Go.Proofs.Ytpgmfjpjjnpiiaa.PLeaseWakes Go.Proofs.YtpgmfjpjjnpiiaaW.PrintWords Go.Proofs.YtpgmfjpjjnpiiaaW.PrintLast Go.Proofs.YtpgmfjpjjnpiiaaW.PrintMore
attribute [local go_sem] max2_int min2_int max_two min_two max_three min_three max_four min_four
set_option linter.unusedSimpArgs false
set_option linter.unusedVariables false
/-- Something in memory: what it says of a world, over blocks of its own. -/
structure Thing where
  H : World → Nat → (Nat → Prop) → Prop
  mono : ∀ {w base ok ok'}, (∀ k, ok k → ok' k) → H w base ok → H w base ok'
  bound : ∀ {w : World} {base ok}, H w base ok → H w base (fun k => ok k ∧ k < w.heap.size)
  lower : ∀ {w base base' ok}, base' ≤ base → H w base ok → H w base' ok
  step : ∀ {w w1 : World} {base ok}, H w base ok → w.heap.size ≤ w1.heap.size → (∀ k, ok k → k < w.heap.size → w1.heap[k]? = w.heap[k]?) → H w1 base ok
/-- Things that lie apart. -/
def Apt (base : Nat) (w : World) (ts : List Thing) : Prop := ∃ O : Nat → Nat → Prop, (∀ i j k, O i k → O j k → i = j) ∧ (∀ i k, O i k → k < w.heap.size) ∧ ∀ (i : Nat) (t : Thing), ts[i]? = some t → t.H w base (O i)
section
variable {base : Nat} {w w1 : World} {ts : List Thing} {t : Thing}
theorem Apt.none_ (base : Nat) (w : World) : Apt base w [] := ⟨fun _ _ => False, fun _ _ _ h => h.elim, fun _ _ h => h.elim, fun i t h => by simp at h⟩
theorem Apt.below (h : Apt base w ts) (hb : Below w.heap.size w w1) : Apt base w1 ts := by
  obtain ⟨O, h1, h2, h3⟩ := h
  exact ⟨O, h1, fun i k hk => Nat.lt_of_lt_of_le (h2 i k hk) hb.size, fun i t ht => t.step (h3 i t ht) hb.size (fun k _ hk => hb.block k hk)⟩
theorem Apt.add (h : Apt base w ts) (hb : Below w.heap.size w w1) (ht : t.H w1 base (fun k => w.heap.size ≤ k)) : Apt base w1 (ts ++ [t]) := by
  obtain ⟨O, h1, h2, h3⟩ := h
  refine ⟨fun i k => if i < ts.length then O i k else i = ts.length ∧ w.heap.size ≤ k ∧ k < w1.heap.size, fun i j k hi hj => ?_, fun i k hk => ?_, fun i t' ht' => ?_⟩
  · dsimp only at hi hj
    split at hi <;> split at hj
    · exact h1 i j k hi hj
    · have := h2 i k hi; omega
    · have := h2 j k hj; omega
    · omega
  · dsimp only at hk
    split at hk
    · exact Nat.lt_of_lt_of_le (h2 i k hk) hb.size
    · exact hk.2.2
  · by_cases q : i < ts.length
    · rw [List.getElem?_append_left q] at ht'
      simp only [if_pos q]
      exact t'.step (h3 i t' ht') hb.size (fun k _ hk => hb.block k hk)
    · rw [List.getElem?_append_right (by omega)] at ht'
      have hi : i = ts.length := by
        by_cases q2 : i - ts.length = 0
        · omega
        · rw [List.getElem?_eq_none (by simp; omega)] at ht'
          cases ht'
      subst hi
      simp only [Nat.sub_self, List.getElem?_cons_zero, Option.some.injEq] at ht'
      subst ht'
      simp only [Nat.lt_irrefl, if_false, true_and]
      exact t.mono (fun k hk => hk) (t.bound ht)
theorem Apt.lower {base' : Nat} (h : Apt base w ts) (hb : base' ≤ base) : Apt base' w ts := by
  obtain ⟨O, h1, h2, h3⟩ := h
  exact ⟨O, h1, h2, fun i t ht => t.lower hb (h3 i t ht)⟩
theorem Apt.take (h : Apt base w ts) (n : Nat) : Apt base w (ts.take n) := by
  obtain ⟨O, h1, h2, h3⟩ := h
  refine ⟨O, h1, h2, fun i t ht => h3 i t ?_⟩
  rw [List.getElem?_take] at ht
  split at ht
  · exact ht
  · cases ht
theorem Apt.get (h : Apt base w ts) {i : Nat} (ht : ts[i]? = some t) : ∃ U, t.H w base U := by
  obtain ⟨O, h1, h2, h3⟩ := h
  exact ⟨_, h3 i t ht⟩
/-- One of the things is opened; what becomes of it is put back. -/
theorem Apt.op (h : Apt base w ts) {i : Nat} (ht : ts[i]? = some t) : ∃ U, t.H w base U ∧ (∀ j t', j ≠ i → ts[j]? = some t' → t'.H w base (fun k => ¬ U k)) ∧
    ∀ (w1 : World) (t1 : Thing), w.heap.size ≤ w1.heap.size → t1.H w1 base (fun k => U k ∨ w.heap.size ≤ k) → Kept w w1 U → Apt base w1 (ts.set i t1) := by
  obtain ⟨O, h1, h2, h3⟩ := h
  refine ⟨O i, h3 i t ht, fun j t' hj ht' => t'.mono (fun k hk hk' => hj (h1 j i k hk hk')) (h3 j t' ht'), fun w1 t1 hs hH hK => ?_⟩
  refine ⟨fun j k => if j = i then (O i k ∨ w.heap.size ≤ k) ∧ k < w1.heap.size else O j k, fun a b k ha hb => ?_, fun j k hk => ?_, fun j t' ht' => ?_⟩
  · dsimp only at ha hb
    split at ha <;> split at hb
    · omega
    · rename_i q1 q2
      rcases ha.1 with ha | ha
      · rw [q1]; exact h1 i b k ha hb
      · have := h2 b k hb; omega
    · rename_i q1 q2
      rcases hb.1 with hb | hb
      · rw [q2]; exact h1 a i k ha hb
      · have := h2 a k ha; omega
    · exact h1 a b k ha hb
  · dsimp only at hk
    split at hk
    · exact hk.2
    · exact Nat.lt_of_lt_of_le (h2 j k hk) hs
  · by_cases q : j = i
    · subst q
      have hl : j < ts.length := (List.getElem?_eq_some_iff.1 ht).1
      rw [List.getElem?_set_self hl] at ht'
      injection ht' with ht'
      subst ht'
      simp only [if_true]
      exact t1.bound hH
    · rw [List.getElem?_set_ne (Ne.symm q)] at ht'
      simp only [if_neg q]
      exact t'.step (h3 j t' ht') hs (fun k hk hl => hK.2 k hl (fun hu => q (h1 j i k hk hu)))
end
/-- The state of an elector. -/
structure ES where
  me : Int
  n : Int
  lease : Int
  safe : Int
  now : Int
  ve : Int
  vh : Int
  vu : Int
  vs : Int
  a0 : Int
  a1 : Int
  a2 : Int
  opn : Bool
  gr : List S36
  led : Int
  unt : Int
  next : Int
  heard : Int
def cellsE (s : ES) (v : Value) : Array Value := #[.int .i64 s.me, .int .i64 s.n, .int .i64 s.lease, .int .i64 s.safe, .int .i64 s.now, .int .i64 s.ve, .int .i64 s.vh, .int .i64 s.vu, .int .i64 s.vs, .int .i64 s.a0, .int .i64 s.a1, .int .i64 s.a2, .bool s.opn, v, .int .i64 s.led, .int .i64 s.unt, .int .i64 s.next, .int .i64 s.heard]
/-- An elector at block r, whose row of replies is v. -/
def EIs (base : Nat) (ok : Nat → Prop) (w : World) (r : Nat) (v : Value) (s : ES) : Prop := w.heap[r]? = some (.cells (cellsE s v) 58 (0, 0)) ∧ base ≤ r ∧ Kd.R k36 36 w base ok v s.gr
section
variable {base : Nat} {ok ok' : Nat → Prop} {w w1 : World} {r : Nat} {v : Value} {s : ES}
theorem EIs.cells (h : EIs base ok w r v s) : w.cell? ⟨r, 0, none⟩ = some (.int .i64 s.me) ∧ w.cell? ⟨r, 1, none⟩ = some (.int .i64 s.n) ∧ w.cell? ⟨r, 2, none⟩ = some (.int .i64 s.lease) ∧ w.cell? ⟨r, 3, none⟩ = some (.int .i64 s.safe) ∧ w.cell? ⟨r, 4, none⟩ = some (.int .i64 s.now) ∧ w.cell? ⟨r, 5, none⟩ = some (.int .i64 s.ve) ∧ w.cell? ⟨r, 6, none⟩ = some (.int .i64 s.vh) ∧ w.cell? ⟨r, 7, none⟩ = some (.int .i64 s.vu) ∧ w.cell? ⟨r, 8, none⟩ = some (.int .i64 s.vs) ∧ w.cell? ⟨r, 9, none⟩ = some (.int .i64 s.a0) ∧ w.cell? ⟨r, 10, none⟩ = some (.int .i64 s.a1) ∧ w.cell? ⟨r, 11, none⟩ = some (.int .i64 s.a2) ∧ w.cell? ⟨r, 12, none⟩ = some (.bool s.opn) ∧ w.cell? ⟨r, 13, none⟩ = some (v) ∧ w.cell? ⟨r, 14, none⟩ = some (.int .i64 s.led) ∧ w.cell? ⟨r, 15, none⟩ = some (.int .i64 s.unt) ∧ w.cell? ⟨r, 16, none⟩ = some (.int .i64 s.next) ∧ w.cell? ⟨r, 17, none⟩ = some (.int .i64 s.heard) :=
  ⟨(blk_cell h.1 0).trans rfl, (blk_cell h.1 1).trans rfl, (blk_cell h.1 2).trans rfl, (blk_cell h.1 3).trans rfl, (blk_cell h.1 4).trans rfl, (blk_cell h.1 5).trans rfl, (blk_cell h.1 6).trans rfl, (blk_cell h.1 7).trans rfl, (blk_cell h.1 8).trans rfl, (blk_cell h.1 9).trans rfl, (blk_cell h.1 10).trans rfl, (blk_cell h.1 11).trans rfl, (blk_cell h.1 12).trans rfl, (blk_cell h.1 13).trans rfl, (blk_cell h.1 14).trans rfl, (blk_cell h.1 15).trans rfl, (blk_cell h.1 16).trans rfl, (blk_cell h.1 17).trans rfl⟩
theorem EIs.free (h : EIs base ok w r v s) (i : Nat) : w.frozen? ⟨r, i, none⟩ = false := blk_frozen h.1 i
theorem EIs.lt (h : EIs base ok w r v s) : r < w.heap.size := blk_lt h.1
theorem EIs.kept (h : EIs base ok w r v s) (hb : Below w.heap.size w w1) : EIs base ok w1 r v s := ⟨blk_below h.1 hb, h.2.1, Kd.R_below h.2.2 hb⟩
theorem EIs.mono (h : EIs base ok w r v s) (ho : ∀ k, ok k → ok' k) : EIs base ok' w r v s := ⟨h.1, h.2.1, Kd.R_mono h.2.2 ho⟩
theorem k36_t58 : ∀ q, q ∈ 36 :: k36.E → q ≠ 58 := by decide
/-- A cell that is no row is another one. -/
theorem EIs.put (h : EIs base ok w r v s) {s' : ES} (j : Nat) (x : Value) (hc : (cellsE s v).setIfInBounds j x = cellsE s' v) (hg : s'.gr = s.gr) : EIs base ok (w.setCell ⟨r, j, none⟩ x) r v s' :=
  ⟨by rw [← hc]; exact blk_put h.1 j x rfl, h.2.1, by
    rw [hg]
    exact Kd.R_mono (Kd.R_far (p := ⟨r, j, none⟩) (Kd.R_types h.2.2 h.1 k36_t58) (fun _ hk => hk.2) x) (fun _ hk => hk.1)⟩
theorem EIs.keep (h : EIs base ok w r v s) (j : Nat) (x : Value) : Below base w (w.setCell ⟨r, j, none⟩ x) ∧ Kept w (w.setCell ⟨r, j, none⟩ x) (fun k => k = r) :=
  ⟨(Below.refl _ _).setCell h.2.1 _, ((Below.refl _ _).setCell h.2.1 _).size, fun k hk hn => Below.heap_setCell _ ⟨r, j, none⟩ _ k hn⟩
end
/-- The elector as a thing. -/
def elT (r : Nat) (s : ES) : Thing where
  H := fun w base ok => ∃ okl v, EIs base okl w r v s ∧ ok r ∧ ∀ k, okl k → ok k ∧ k ≠ r
  mono := fun h ⟨okl, v, hN, hr, ho⟩ => ⟨okl, v, hN, h _ hr, fun k hk => ⟨h _ (ho k hk).1, (ho k hk).2⟩⟩
  bound := fun {w base ok} ⟨okl, v, hN, hr, ho⟩ => ⟨fun k => okl k ∧ k < w.heap.size, v, ⟨hN.1, hN.2.1, Kd.R_mono (Kd.R_bound hN.2.2) (fun k hk => ⟨hk.1, hk.2.2.1⟩)⟩, ⟨hr, hN.lt⟩, fun k hk => ⟨⟨(ho k hk.1).1, hk.2⟩, (ho k hk.1).2⟩⟩
  lower := fun hb ⟨okl, v, hN, hr, ho⟩ => ⟨okl, v, ⟨hN.1, Nat.le_trans hb hN.2.1, Kd.R_lower hN.2.2 hb⟩, hr, ho⟩
  step := fun ⟨okl, v, hN, hr, ho⟩ hs hm => ⟨okl, v, ⟨by rw [hm _ hr hN.lt]; exact hN.1, hN.2.1, Kd.R_step hN.2.2 (fun k hk hl => hm k (ho k hk).1 hl)⟩, hr, ho⟩
/-- What happens to the numbers. -/
def toldS (s : ES) (t : Int) : ES := { s with now := mx s.now (mn t 1099511627776) }
def leadsB (s : ES) : Bool := decide (s.led ≠ 0) && decide (s.now < s.unt)
def pauseS (s : ES) : ES := { s with next := s.now + s.lease + 16 * (s.me + 1) }
set_option maxHeartbeats 4000000 in
set_option maxRecDepth 100000 in
theorem told_ok (base r : Nat) (ok : Nat → Prop) (v : Value) (s : ES) (t : Int) (w : World) (h : EIs base ok w r v s) :
    Calls Try.prog 29 #[.pointer (some ⟨r, 0, none⟩), .int .i64 t] w fun e w' => e = .returned (.tuple #[]) ∧ EIs base ok w' r v (toldS s t) ∧ Below base w w' ∧ Kept w w' (fun k => k = r) := by
  obtain ⟨c0, c1, c2, c3, c4, c5, c6, c7, c8, c9, c10, c11, c12, c13, c14, c15, c16, c17⟩ := h.cells
  have f4 := h.free 4
  have H := Lib.hid h
  clear h
  have key : ∀ y : Int, y = mx s.now (mn t 1099511627776) → EIs base ok (w.setCell ⟨r, 4, none⟩ (.int .i64 y)) r v (toldS s t) ∧ Below base w (w.setCell ⟨r, 4, none⟩ (.int .i64 y)) ∧ Kept w (w.setCell ⟨r, 4, none⟩ (.int .i64 y)) (fun k => k = r) := by
    intro y hy
    subst hy
    exact ⟨H.out.put 4 _ rfl rfl, H.out.keep 4 _⟩
  have KEY := Lib.hid key
  clear key
  go_enter Try.func29, Try.ntmps29
  go_wp2
  all_goals
    go_end0
    exact ⟨rfl, KEY.out _ (by unfold mx mn; (repeat' split) <;> omega)⟩
set_option maxHeartbeats 4000000 in
set_option maxRecDepth 100000 in
theorem leads_ok (base r : Nat) (ok : Nat → Prop) (v : Value) (s : ES) (w : World) (h : EIs base ok w r v s) :
    Calls Try.prog 33 #[.pointer (some ⟨r, 0, none⟩)] w fun e w' => e = .returned (.bool (leadsB s)) ∧ EIs base ok w' r v s ∧ Below w.heap.size w w' := by
  obtain ⟨c0, c1, c2, c3, c4, c5, c6, c7, c8, c9, c10, c11, c12, c13, c14, c15, c16, c17⟩ := h.cells
  have H := Lib.hid h
  clear h
  unfold leadsB
  by_cases q : s.led = 0
  · go_enter Try.func33, Try.ntmps33
    go_wp2
    go_quiet (fail)
    go_wp2
    go_ret
    exact ⟨by simp [q], H.out.kept (pw_below_drewN (Below.refl _ _) _), pw_below_drewN (Below.refl _ _) _⟩
  · have q1 : (s.led == 0) = false := beq_eq_false_iff_ne.mpr q
    have q2 : (s.led != 0) = true := bne_iff_ne.mpr q
    go_enter Try.func33, Try.ntmps33
    go_wp2
    go_quiet (fail)
    go_wp2
    go_ret
    exact ⟨by simp [q], H.out.kept (pw_below_drewN (Below.refl _ _) _), pw_below_drewN (Below.refl _ _) _⟩
set_option maxHeartbeats 4000000 in
set_option maxRecDepth 100000 in
theorem pause_ok (base r : Nat) (ok : Nat → Prop) (v : Value) (s : ES) (w : World) (h : EIs base ok w r v s) (h1 : 0 ≤ s.now ∧ s.now ≤ 1099511627776) (h2 : 0 ≤ s.lease ∧ s.lease ≤ 1000) (h3 : 0 ≤ s.me ∧ s.me ≤ 5) :
    Calls Try.prog 34 #[.pointer (some ⟨r, 0, none⟩)] w fun e w' => e = .returned (.tuple #[]) ∧ EIs base ok w' r v (pauseS s) ∧ Below base w w' ∧ Kept w w' (fun k => k = r) := by
  obtain ⟨c0, c1, c2, c3, c4, c5, c6, c7, c8, c9, c10, c11, c12, c13, c14, c15, c16, c17⟩ := h.cells
  have f11 := h.free 16
  have H := Lib.hid h
  clear h
  have e1 : IntKind.i64.wrap (s.now + s.lease) = s.now + s.lease := by rw [i64_w]; unfold wrap64; omega
  have e2 : IntKind.i64.wrap (s.me + 1) = s.me + 1 := by rw [i64_w]; unfold wrap64; omega
  have e3 : IntKind.i64.wrap (16 * (s.me + 1)) = 16 * (s.me + 1) := by rw [i64_w]; unfold wrap64; omega
  have e4 : IntKind.i64.wrap (s.now + s.lease + 16 * (s.me + 1)) = s.now + s.lease + 16 * (s.me + 1) := by rw [i64_w]; unfold wrap64; omega
  go_enter Try.func34, Try.ntmps34
  go_region_law (first | fail)
  all_goals
    go_end0
    have hk := H.out.keep 16 (.int .i64 (s.now + s.lease + 16 * (s.me + 1)))
    exact ⟨rfl, (H.out.put (s' := pauseS s) 16 _ rfl rfl).kept (below_drew1 (Below.refl _ _)), below_drew1 hk.1, hk.2⟩
end Go.Proofs.Ytpgmfjpjjnpiiaa.LeaseA
end
section
namespace Go.Proofs.Ytpgmfjpjjnpiiaa.LeaseH
open Go.RowKit Go.Proofs.Ytpgmfjpjjnpiiaa.PLeaseWakes Go.Proofs.YtpgmfjpjjnpiiaaW.PrintWords Go.Proofs.YtpgmfjpjjnpiiaaW.PrintLast Go.Proofs.YtpgmfjpjjnpiiaaW.PrintMore
attribute [local go_sem] max2_int min2_int max_two min_two max_three min_three max_four min_four
set_option linter.unusedSimpArgs false
set_option linter.unusedVariables false
open Go.Proofs.Ytpgmfjpjjnpiiaa.LeaseA
theorem kept_trans {w w1 w2 : World} {S : Nat → Prop} (h1 : Kept w w1 S) (h2 : Kept w1 w2 S) : Kept w w2 S := ⟨Nat.le_trans h1.1 h2.1, fun k hk hn => (h2.2 k (Nat.lt_of_lt_of_le hk h1.1) hn).trans (h1.2 k hk hn)⟩
theorem vote_put {base : Nat} {ok : Nat → Prop} {w : World} {r : Nat} {v : Value} {s : ES} (h : EIs base ok w r v s) (a b c d : Int) :
    EIs base ok ((((w.setCell ⟨r, 5, none⟩ (.int .i64 a)).setCell ⟨r, 6, none⟩ (.int .i64 b)).setCell ⟨r, 7, none⟩ (.int .i64 c)).setCell ⟨r, 8, none⟩ (.int .i64 d)) r v { s with ve := a, vh := b, vu := c, vs := d } ∧
    Below base w ((((w.setCell ⟨r, 5, none⟩ (.int .i64 a)).setCell ⟨r, 6, none⟩ (.int .i64 b)).setCell ⟨r, 7, none⟩ (.int .i64 c)).setCell ⟨r, 8, none⟩ (.int .i64 d)) ∧
    Kept w ((((w.setCell ⟨r, 5, none⟩ (.int .i64 a)).setCell ⟨r, 6, none⟩ (.int .i64 b)).setCell ⟨r, 7, none⟩ (.int .i64 c)).setCell ⟨r, 8, none⟩ (.int .i64 d)) (fun k => k = r) := by
  have h1 := h.put (s' := { s with ve := a }) 5 (.int .i64 a) rfl rfl
  have h2 := h1.put (s' := { s with ve := a, vh := b }) 6 (.int .i64 b) rfl rfl
  have h3 := h2.put (s' := { s with ve := a, vh := b, vu := c }) 7 (.int .i64 c) rfl rfl
  exact ⟨h3.put 8 (.int .i64 d) rfl rfl, (h.keep 5 _).1.trans ((h1.keep 6 _).1.trans ((h2.keep 7 _).1.trans (h3.keep 8 _).1)), kept_trans (h.keep 5 _).2 (kept_trans (h1.keep 6 _).2 (kept_trans (h2.keep 7 _).2 (h3.keep 8 _).2))⟩
set_option maxHeartbeats 4000000 in
set_option maxRecDepth 100000 in
theorem free_ok (base r : Nat) (ok : Nat → Prop) (v : Value) (s s1 : ES) (t x y z r1 r2 r3 r4 : Int) (w : World) (h : EIs base ok w r v s) (hs : toldS s t = s1) (hf : ballot_Free.f s1.ve s1.vh s1.vu s1.vs s1.now x y z = some (r1, r2, r3, r4)) :
    Calls Try.prog 12 #[.pointer (some ⟨r, 0, none⟩), .int .i64 t, .agg #[.int .i64 x, .int .i64 y, .int .i64 z]] w fun e w' => e = .returned (.tuple #[]) ∧ EIs base ok w' r v { s1 with ve := r1, vh := r2, vu := r3, vs := r4 } ∧ Below base w w' ∧ Kept w w' (fun k => k = r) := by
  have HB := Lib.hid (Below.refl w.heap.size w)
  have H := Lib.hid h
  have HS := Lib.hid hs
  have HF := Lib.hid hf
  have HRL := Lib.hid h.lt
  clear h hs hf
  go_enter Try.func12, Try.ntmps12
  go_upto_region 3 with (first | ((with_reducible refine gate_dst (N := 5) rfl ?_); refine box_event ?hg (N := 5) ?hd (cs := #[.int .i64 x, .int .i64 y, .int .i64 z]) (t := 34) ?hr ?_; (case hd => rfl); (case hg => rfl); (case hr => first | (go_simp; done) | (go_simp; rfl)); intro ga hg w1 hbox hb; have h_ := H.out.kept hb; clear H; have H := Lib.hid h_; clear h_; have hga := Lib.hid (Nat.le_of_eq hg.symm); have hb_ := below_step HB.out hb; clear HB; have HB := Lib.hid hb_; have HG := Lib.hid hbox; clear hbox hb hb_ hg) | ((with_reducible go_at_call 29); (have q_ := H; clear q_); go_must (refine (told_ok base r ok v s t _ H.out).mono ?_; rintro e w1 ⟨rfl, h, hb, hk⟩; have H1 : Hid (EIs base ok w1 r v s1) := Lib.hid (by rw [← HS.out]; exact h); have HG1 := Lib.hid ((hk.2 ga (blk_lt HG.out) (Ne.symm (blk_ne H.out.1 HG.out (by decide)))).trans HG.out); have HB1 := Lib.hid hb; have HK1 := Lib.hid hk; clear H HG h hb hk)))
  generalize w1 = w2 at *
  obtain ⟨c0, c1, c2, c3, c4, c5, c6, c7, c8, c9, c10, c11, c12, c13, c14, c15, c16, c17⟩ := H1.out.cells
  clear c0 c1 c2 c3 c9 c10 c11 c12 c13 c14 c15 c16 c17
  have q0 : w2.cell? ⟨ga, 0, none⟩ = some (.int .i64 x) := (blk_cell HG1.out 0).trans rfl
  have q1 : w2.cell? ⟨ga, 1, none⟩ = some (.int .i64 y) := (blk_cell HG1.out 1).trans rfl
  have q2 : w2.cell? ⟨ga, 2, none⟩ = some (.int .i64 z) := (blk_cell HG1.out 2).trans rfl
  go_region_law (first | (go_simp; (with_reducible go_at_call 32); go_must (refine (ballot_Free.calls s1.ve s1.vh s1.vu s1.vs s1.now x y z r1 r2 r3 r4 _ HF.out).mono ?_; rintro e w3 ⟨rfl, hb⟩; have hb : Below w2.heap.size w2 w3 := ⟨hb.os, hb.tape, hb.output, hb.size, hb.block⟩; have h3 := H1.out.kept hb; have g5 := h3.free 5; have g6 := h3.free 6; have g7 := h3.free 7; have g8 := h3.free 8; obtain ⟨z0, z1, z2, z3, z4, z5, z6, z7, z8, z9, z10, z11, z12, z13, z14, z15, z16, z17⟩ := h3.cells; clear z0 z1 z2 z3 z4 z9 z10 z11 z12 z13 z14 z15 z16 z17; have H3 := Lib.hid h3; have HB3 := Lib.hid hb; clear h3 hb)))
  all_goals
    go_end0
    obtain ⟨p1, p2, p3⟩ := vote_put H3.out r1 r2 r3 r4
    have hbb : Below base w w3 := by
      have b1 := H1.out.lt
      have b2 := H1.out.2.1
      exact ((HB.out.mono (Nat.le_trans b2 (Nat.le_of_lt HRL.out))).trans HB1.out).trans (HB3.out.mono (by omega))
    have hkk : Kept w w3 (fun k => k = r) := kept_trans (Kept.of_below HB.out _) (Kept.below HK1.out HB3.out)
    exact ⟨rfl, p1, hbb.trans p2, kept_trans hkk p3⟩
end Go.Proofs.Ytpgmfjpjjnpiiaa.LeaseH
end
section
namespace Go.Proofs.Ytpgmfjpjjnpiiaa.LeaseG
open Go.RowKit Go.Proofs.Ytpgmfjpjjnpiiaa.PLeaseWakes Go.Proofs.YtpgmfjpjjnpiiaaW.PrintWords Go.Proofs.YtpgmfjpjjnpiiaaW.PrintLast Go.Proofs.YtpgmfjpjjnpiiaaW.PrintMore
attribute [local go_sem] max2_int min2_int max_two min_two max_three min_three max_four min_four
set_option linter.unusedSimpArgs false
set_option linter.unusedVariables false
open Go.Proofs.Ytpgmfjpjjnpiiaa.LeaseA
theorem below_e {base : Nat} {ok : Nat → Prop} {w w1 w2 : World} {r : Nat} {v : Value} {s : ES} (h : Below base w w1) (hE : EIs base ok w1 r v s) (hb : Below w1.heap.size w1 w2) : Below base w w2 := h.trans (hb.mono (by have := hE.lt; have := hE.2.1; omega))
set_option maxHeartbeats 4000000 in
set_option maxRecDepth 100000 in
theorem lead_ok (base r : Nat) (ok : Nat → Prop) (v : Value) (s s1 : ES) (t : Int) (w : World) (h : EIs base ok w r v s) (hs : toldS s t = s1) :
    Calls Try.prog 13 #[.pointer (some ⟨r, 0, none⟩), .int .i64 t] w fun e w' => e = .returned (.tuple #[.int .i64 (if leadsB s1 = true then s1.led else 0), .bool (leadsB s1)]) ∧ EIs base ok w' r v s1 ∧ Below base w w' ∧ Kept w w' (fun k => k = r) := by
  have H := Lib.hid h
  have HS := Lib.hid hs
  clear h hs
  by_cases q : leadsB s1 = true
  · go_enter Try.func13, Try.ntmps13
    go_wp2_with (first | ((with_reducible go_at_call 29); (have q_ := H; clear q_); go_must (refine (told_ok base r ok v s t _ H.out).mono ?_; rintro e w1 ⟨rfl, h, hb, hk⟩; have H1 : Hid (EIs base ok w1 r v s1) := Lib.hid (by rw [← HS.out]; exact h); have HB1 := Lib.hid hb; have HK1 := Lib.hid hk; clear H h hb hk)) | ((with_reducible go_at_call 33); (have q_ := H1; clear q_); go_must (refine (leads_ok base r ok v s1 _ H1.out).mono ?_; rintro e w2 ⟨he, h, hb⟩; rw [q] at he; subst he; have c14 := h.cells.2.2.2.2.2.2.2.2.2.2.2.2.2.2.1; have H2 := Lib.hid h; have HB2 := Lib.hid hb; clear h hb)))
    go_ret2
    exact ⟨by simp [q], H2.out, below_e HB1.out H1.out HB2.out, Kept.below HK1.out HB2.out⟩
  · have q : leadsB s1 = false := by simpa using q
    go_enter Try.func13, Try.ntmps13
    go_wp2_with (first | ((with_reducible go_at_call 29); (have q_ := H; clear q_); go_must (refine (told_ok base r ok v s t _ H.out).mono ?_; rintro e w1 ⟨rfl, h, hb, hk⟩; have H1 : Hid (EIs base ok w1 r v s1) := Lib.hid (by rw [← HS.out]; exact h); have HB1 := Lib.hid hb; have HK1 := Lib.hid hk; clear H h hb hk)) | ((with_reducible go_at_call 33); (have q_ := H1; clear q_); go_must (refine (leads_ok base r ok v s1 _ H1.out).mono ?_; rintro e w2 ⟨he, h, hb⟩; rw [q] at he; subst he; have c14 := h.cells.2.2.2.2.2.2.2.2.2.2.2.2.2.2.1; have H2 := Lib.hid h; have HB2 := Lib.hid hb; clear h hb)))
    go_ret2
    exact ⟨by simp [q], H2.out, below_e HB1.out H1.out HB2.out, Kept.below HK1.out HB2.out⟩
set_option maxHeartbeats 4000000 in
set_option maxRecDepth 100000 in
theorem vote_ok (base r : Nat) (ok : Nat → Prop) (v : Value) (s : ES) (w : World) (h : EIs base ok w r v s) :
    Calls Try.prog 15 #[.pointer (some ⟨r, 0, none⟩)] w fun e w' => e = .returned (.agg #[.int .i64 s.ve, .int .i64 s.vh, .int .i64 s.vu, .int .i64 s.vs]) ∧ Below w.heap.size w w' := by
  have HB := Lib.hid (Below.refl w.heap.size w)
  have H := Lib.hid h
  clear h
  go_enter Try.func15, Try.ntmps15
  go_wp2_with (first | ((with_reducible refine gate_dst (N := 2) rfl ?_); refine box_event ?hg (N := 2) ?hd (cs := #[.int .i64 0, .int .i64 0, .int .i64 0, .int .i64 0]) (t := 48) ?hr ?_; (case hd => rfl); (case hg => rfl); (case hr => first | (go_simp; done) | (go_simp; rfl)); intro gb hg w1 hbox hb; have hg2 := Lib.hid (Nat.le_trans HB.out.size (Nat.le_of_eq hg.symm)); have hC_ := (H.out.kept hb).cells; obtain ⟨c0, c1, c2, c3, c4, c5, c6, c7, c8, c9, c10, c11, c12, c13, c14, c15, c16, c17⟩ := hC_; clear c0 c1 c2 c3 c4 c9 c10 c11 c12 c13 c14 c15 c16 c17; have hb_ := below_step HB.out hb; clear HB; have HB := Lib.hid hb_; have hX := Lib.hid hbox; have y0 : World.cell? w1 ⟨gb, 0, none⟩ = some (.int .i64 0) := (blk_cell hbox 0).trans rfl; have yf0 := blk_frozen hbox 0; have y1 : World.cell? w1 ⟨gb, 1, none⟩ = some (.int .i64 0) := (blk_cell hbox 1).trans rfl; have yf1 := blk_frozen hbox 1; have y2 : World.cell? w1 ⟨gb, 2, none⟩ = some (.int .i64 0) := (blk_cell hbox 2).trans rfl; have yf2 := blk_frozen hbox 2; have y3 : World.cell? w1 ⟨gb, 3, none⟩ = some (.int .i64 0) := (blk_cell hbox 3).trans rfl; have yf3 := blk_frozen hbox 3; clear hbox hb hb_ hg))
  refine bodyPost_ret (results_cell_row rfl _ _ gb 48 #[.int .i64 s.ve, .int .i64 s.vh, .int .i64 s.vu, .int .i64 s.vs] (0, 0) _ rfl (blk_put (blk_put (blk_put (blk_put hX.out 0 _ rfl) 1 _ rfl) 2 _ rfl) 3 _ rfl) Try.underlying48 rfl (by kernel_rfl)) rfl ?_
  exact ⟨rfl, (below_set (below_set (below_set (below_set HB.out hg2.out) hg2.out) hg2.out) hg2.out)⟩
end Go.Proofs.Ytpgmfjpjjnpiiaa.LeaseG
end
section
namespace Go.Proofs.Ytpgmfjpjjnpiiaa.LeaseF
open Go.RowKit Go.Proofs.Ytpgmfjpjjnpiiaa.PLeaseWakes Go.Proofs.YtpgmfjpjjnpiiaaW.PrintWords Go.Proofs.YtpgmfjpjjnpiiaaW.PrintLast Go.Proofs.YtpgmfjpjjnpiiaaW.PrintMore
attribute [local go_sem] max2_int min2_int max_two min_two max_three min_three max_four min_four
set_option linter.unusedSimpArgs false
set_option linter.unusedVariables false
open Go.Proofs.Ytpgmfjpjjnpiiaa.LeaseA
theorem out_two (a b : Int) : clock_out.f 4 ([(⟨a, 1, 1000⟩ : S81), (⟨b, 0, 200⟩ : S81)]) = some (!decide (1 ≤ a ∧ a ≤ 1000 ∧ 0 ≤ b ∧ b ≤ 200)) := by
  unfold clock_out.f
  by_cases q1 : a < 1
  · simp [clock_out.l0, rd_T81, q1]
  by_cases q2 : 1000 < a
  · simp [clock_out.l0, rd_T81, q1, q2]
  by_cases q3 : b < 0
  · simp [clock_out.l0, rd_T81, q1, q2, q3, wrap64]
  by_cases q4 : 200 < b
  · simp [clock_out.l0, rd_T81, q1, q2, q3, q4, wrap64]
  · simp [clock_out.l0, rd_T81, q1, q2, q3, q4, wrap64]; omega
/-- How long a lease is safe. -/
def safeS (l d : Int) : Int := mx (Int.tdiv (l * (1000 - d)) (1000 + d)) 2 - 2
def fitB (l d : Int) : Bool := decide (1 ≤ l ∧ l ≤ 1000 ∧ 0 ≤ d ∧ d ≤ 200)
theorem safe_good (l d : Int) (h : fitB l d = true) : clock_Safe.f 4 l d = some (safeS l d, 0) ∧ 0 ≤ safeS l d ∧ safeS l d ≤ 1000 := by
  have hf := h
  unfold fitB at h
  have h := of_decide_eq_true h
  have e1 : wrap64 (1000 - d) = 1000 - d := by unfold wrap64; omega
  have e2 : wrap64 (1000 + d) = 1000 + d := by unfold wrap64; omega
  have b1 : l * (1000 - d) ≤ 1000 * 1000 := Int.mul_le_mul (by omega) (by omega) (by omega) (by omega)
  have b0 : 0 ≤ l * (1000 - d) := Int.mul_nonneg (by omega) (by omega)
  have e3 : wrap64 (l * (1000 - d)) = l * (1000 - d) := by unfold wrap64; omega
  have b2 : 0 ≤ Int.tdiv (l * (1000 - d)) (1000 + d) := Int.tdiv_nonneg b0 (by omega)
  have b3 : Int.tdiv (l * (1000 - d)) (1000 + d) ≤ 1000 := by
    rw [Int.tdiv_eq_ediv_of_nonneg b0]
    exact Int.ediv_le_of_le_mul (by omega) (by omega)
  have e4 : wrap64 (Int.tdiv (l * (1000 - d)) (1000 + d)) = Int.tdiv (l * (1000 - d)) (1000 + d) := by unfold wrap64; omega
  have b4 : 0 ≤ safeS l d ∧ safeS l d ≤ 1000 := by unfold safeS mx; split <;> omega
  refine ⟨?_, b4⟩
  unfold clock_Safe.f
  have e0 := out_two l d
  rw [e0, e1, e2, e3, e4]
  have e5 : decide (1 ≤ l ∧ l ≤ 1000 ∧ 0 ≤ d ∧ d ≤ 200) = true := hf
  rw [e5]
  simp only [Option.bind_some, Bool.not_true]
  rw [if_neg (by decide), if_neg (by omega)]
  show some (wrap64 (mx _ 2 - 2), (0 : Int)) = _
  rw [show wrap64 (mx (Int.tdiv (l * (1000 - d)) (1000 + d)) 2 - 2) = safeS l d by
    have := b4
    unfold safeS at this ⊢
    unfold wrap64
    omega]
theorem safe_bad (l d : Int) (h : fitB l d = false) : clock_Safe.f 4 l d = some (0, 1) := by
  unfold clock_Safe.f
  have e5 : decide (1 ≤ l ∧ l ≤ 1000 ∧ 0 ≤ d ∧ d ≤ 200) = false := h
  rw [out_two, e5]
  rfl
/-- A new elector. -/
def newS (me n l sf : Int) : ES := ⟨me, n, l, sf, 0, 0, -1, 0, 0, 0, 0, 0, false, [], 0, 0, 16 * (me + 1), 0⟩
theorem el_new {base N r : Nat} {w1 : World} {s : ES} (h : N ≤ r) (hb : base ≤ N) (hx : w1.heap[r]? = some (.cells (cellsE s (.slice none 0 0)) 58 (0, 0))) (hg : s.gr = []) : (elT r s).H w1 base (fun k => N ≤ k) :=
  ⟨fun _ => False, .slice none 0 0, ⟨hx, Nat.le_trans hb h, by rw [hg]; exact Kd.R_nil _ _ _ _ _⟩, h, fun k hk => hk.elim⟩
set_option maxHeartbeats 4000000 in
set_option maxRecDepth 100000 in
theorem new_good (base : Nat) (ts : List Thing) (me n l d sf : Int) (w : World) (hA : Apt base w ts) (hbw : base ≤ w.heap.size) (hf : clock_Safe.f 4 l d = some (sf, 0)) (hl : 40 ≤ l) (hn : n = 1 ∨ n = 3 ∨ n = 5) (hm : 0 ≤ me ∧ me < n) :
    Calls Try.prog 7 #[.int .i64 me, .int .i64 n, .int .i64 l, .int .i64 d] w fun e w' => ∃ r, e = .returned (.tuple #[.pointer (some ⟨r, 0, none⟩), .int .i64 0]) ∧ Apt base w' (ts ++ [elT r (newS me n l sf)]) ∧ Below w.heap.size w w' := by
  have HB := Lib.hid (Below.refl w.heap.size w)
  have HA := Lib.hid hA
  have HF := Lib.hid hf
  have e1 : IntKind.i64.wrap (me + 1) = me + 1 := by rw [i64_w]; unfold wrap64; omega
  have e2 : IntKind.i64.wrap (16 * (me + 1)) = 16 * (me + 1) := by rw [i64_w]; unfold wrap64; omega
  have b1 : Go.bits .and .i64 1 1 = 1 := by decide +kernel
  have b3 : Go.bits .and .i64 3 1 = 1 := by decide +kernel
  have b5 : Go.bits .and .i64 5 1 = 1 := by decide +kernel
  have m0 := hm.1
  have m1 := hm.2
  clear hA hf hm
  rcases hn with rfl | rfl | rfl
  all_goals
    go_enter Try.func7, Try.ntmps7
    go_wp2_with (first | ((with_reducible go_at_call 18); go_must (refine (clock_Safe.calls 4 l d sf 0 _ HF.out).mono ?_; rintro e w1 ⟨rfl, hb⟩; have ha_ := Apt.below HA.out hb; clear HA; have HA := Lib.hid ha_; clear ha_; have hb_ := below_step HB.out hb; clear HB; have HB := Lib.hid hb_; clear hb_ hb)) | ((with_reducible go_at_call 19); go_must (refine (ballot_Fresh.calls 0 (-1) 0 0 _ rfl).mono ?_; rintro e w1 ⟨rfl, hb⟩; have ha_ := Apt.below HA.out hb; clear HA; have HA := Lib.hid ha_; clear ha_; have hb_ := below_step HB.out hb; clear HB; have HB := Lib.hid hb_; clear hb_ hb)) | ((with_reducible refine gate_dst (N := 55) rfl ?_); (have q_ := HA; clear q_); refine box_event ?hg (N := 55) ?hd (cs := cellsE (newS me _ l sf) (.slice none 0 0)) (t := 58) ?hr ?_; (case hd => rfl); (case hg => rfl); (case hr => first | (go_simp; done) | (go_simp; rfl)); intro r hg w1 hbox hb; have hy := Apt.add HA.out hb (el_new (Nat.le_of_eq hg.symm) (Nat.le_trans hbw HB.out.size) hbox rfl); have HY := Lib.hid hy; clear HA hy hbox hg; have hb_ := below_step HB.out hb; clear HB; have HB := Lib.hid hb_; clear hb_ hb))
    go_ret2
    exact ⟨_, rfl, Apt.add HA.out (below_alloc (Below.refl _ _) _) (el_new (Nat.le_refl _) (Nat.le_trans hbw HB.out.size) (blk_new _ _) rfl), below_step HB.out (below_alloc (Below.refl _ _) _)⟩
end Go.Proofs.Ytpgmfjpjjnpiiaa.LeaseF
end
section
namespace Go.Proofs.Ytpgmfjpjjnpiiaa.LeaseI
open Go.RowKit Go.Proofs.Ytpgmfjpjjnpiiaa.PLeaseWakes Go.Proofs.YtpgmfjpjjnpiiaaW.PrintWords Go.Proofs.YtpgmfjpjjnpiiaaW.PrintLast Go.Proofs.YtpgmfjpjjnpiiaaW.PrintMore
attribute [local go_sem] max2_int min2_int max_two min_two max_three min_three max_four min_four
set_option linter.unusedSimpArgs false
set_option linter.unusedVariables false
open Go.Proofs.Ytpgmfjpjjnpiiaa.LeaseA
set_option maxHeartbeats 4000000 in
set_option maxRecDepth 100000 in
theorem new_far (me n l d sf : Int) (w : World) (hf : clock_Safe.f 4 l d = some (sf, 1)) :
    Calls Try.prog 7 #[.int .i64 me, .int .i64 n, .int .i64 l, .int .i64 d] w fun e w' => e = .returned (.tuple #[.pointer none, .int .i64 1]) ∧ Below w.heap.size w w' := by
  have HB := Lib.hid (Below.refl w.heap.size w)
  have HF := Lib.hid hf
  clear hf
  go_enter Try.func7, Try.ntmps7
  go_wp2_with (first | ((with_reducible go_at_call 18); go_must (refine (clock_Safe.calls 4 l d sf 1 _ HF.out).mono ?_; rintro e w1 ⟨rfl, hb⟩; have hb_ := below_step HB.out hb; clear HB; have HB := Lib.hid hb_; clear hb_ hb)))
  go_ret2
  exact ⟨rfl, HB.out⟩
set_option maxHeartbeats 4000000 in
set_option maxRecDepth 100000 in
theorem new_bad (me n l d sf : Int) (w : World) (hf : clock_Safe.f 4 l d = some (sf, 0)) (hbad : l < 40 ∨ n < 1 ∨ 5 < n ∨ n = 2 ∨ n = 4 ∨ me < 0 ∨ n ≤ me) :
    Calls Try.prog 7 #[.int .i64 me, .int .i64 n, .int .i64 l, .int .i64 d] w fun e w' => e = .returned (.tuple #[.pointer none, .int .i64 1]) ∧ Below w.heap.size w w' := by
  have HB := Lib.hid (Below.refl w.heap.size w)
  have HF := Lib.hid hf
  have b1 : Go.bits .and .i64 1 1 = 1 := by decide +kernel
  have b3 : Go.bits .and .i64 3 1 = 1 := by decide +kernel
  have b5 : Go.bits .and .i64 5 1 = 1 := by decide +kernel
  have b2 : Go.bits .and .i64 2 1 = 0 := by decide +kernel
  have b4 : Go.bits .and .i64 4 1 = 0 := by decide +kernel
  clear hf
  by_cases q1 : l < 40
  · go_enter Try.func7, Try.ntmps7
    go_wp2_with (first | ((with_reducible go_at_call 18); go_must (refine (clock_Safe.calls 4 l d sf 0 _ HF.out).mono ?_; rintro e w1 ⟨rfl, hb⟩; have hb_ := below_step HB.out hb; clear HB; have HB := Lib.hid hb_; clear hb_ hb)))
    go_ret2
    exact ⟨rfl, HB.out⟩
  by_cases q2 : n < 1
  · go_enter Try.func7, Try.ntmps7
    go_wp2_with (first | ((with_reducible go_at_call 18); go_must (refine (clock_Safe.calls 4 l d sf 0 _ HF.out).mono ?_; rintro e w1 ⟨rfl, hb⟩; have hb_ := below_step HB.out hb; clear HB; have HB := Lib.hid hb_; clear hb_ hb)))
    go_ret2
    exact ⟨rfl, HB.out⟩
  by_cases q3 : 5 < n
  · go_enter Try.func7, Try.ntmps7
    go_wp2_with (first | ((with_reducible go_at_call 18); go_must (refine (clock_Safe.calls 4 l d sf 0 _ HF.out).mono ?_; rintro e w1 ⟨rfl, hb⟩; have hb_ := below_step HB.out hb; clear HB; have HB := Lib.hid hb_; clear hb_ hb)))
    go_ret2
    exact ⟨rfl, HB.out⟩
  have hn5 : n = 1 ∨ n = 2 ∨ n = 3 ∨ n = 4 ∨ n = 5 := by omega
  rcases hn5 with rfl | rfl | rfl | rfl | rfl
  case inr.inl | inr.inr.inr.inl =>
    go_enter Try.func7, Try.ntmps7
    go_wp2_with (first | ((with_reducible go_at_call 18); go_must (refine (clock_Safe.calls 4 l d sf 0 _ HF.out).mono ?_; rintro e w1 ⟨rfl, hb⟩; have hb_ := below_step HB.out hb; clear HB; have HB := Lib.hid hb_; clear hb_ hb)))
    go_ret2
    exact ⟨rfl, HB.out⟩
  all_goals
    by_cases q4 : me < 0
    · go_enter Try.func7, Try.ntmps7
      go_wp2_with (first | ((with_reducible go_at_call 18); go_must (refine (clock_Safe.calls 4 l d sf 0 _ HF.out).mono ?_; rintro e w1 ⟨rfl, hb⟩; have hb_ := below_step HB.out hb; clear HB; have HB := Lib.hid hb_; clear hb_ hb)))
      go_ret2
      exact ⟨rfl, HB.out⟩
    · have q4' : 0 ≤ me := by omega
      have q5 := (show (_ : Int) ≤ me from by rcases hbad with h | h | h | h | h | h | h <;> first | exact h | omega)
      go_enter Try.func7, Try.ntmps7
      go_wp2_with (first | ((with_reducible go_at_call 18); go_must (refine (clock_Safe.calls 4 l d sf 0 _ HF.out).mono ?_; rintro e w1 ⟨rfl, hb⟩; have hb_ := below_step HB.out hb; clear HB; have HB := Lib.hid hb_; clear hb_ hb)))
      go_ret2
      exact ⟨rfl, HB.out⟩
end Go.Proofs.Ytpgmfjpjjnpiiaa.LeaseI
end
