/- PROVED: the reference's net on states. No condition beyond what each line says. -/
import Derived.Test.YtglhojkchpbnkaaNetS
import Derived.WalkKit
import Derived.WalkSpells
import Derived.WalkLawsBesides
import Derived.Outline
import Derived.Lib.Hide
import Derived.Deep.LoopGhost
import Derived.Deep.RegionHeld3
import Derived.Deep.DeepCutAuto
import Derived.Deep.RegionLaw
import Derived.BigQuiet
import Derived.Deep.QuietTactic
namespace Go.Proofs.Ytglhojkchpbnkaa.NetC
open Go.RowKit Go.Proofs.Ytglhojkchpbnkaa.PNetPlays Go.Proofs.Ytglhojkchpbnkaa.Net2 Go.Proofs.Ytglhojkchpbnkaa.NetTake Go.Proofs.YtglhojkchpbnkaaW.PrintWords Go.Proofs.YtglhojkchpbnkaaW.PrintLast Go.Proofs.YtglhojkchpbnkaaW.PrintMore
open Go.Proofs.Ytglhojkchpbnkaa.NetAwake (world_gen)
open Go.Proofs.Ytglhojkchpbnkaa.Net (own_is info29 k29_types at_in len_is look_fin)
set_option linter.unusedSimpArgs false
set_option linter.unusedVariables false
open Go.Proofs.Ytglhojkchpbnkaa.NetA Go.Proofs.Ytglhojkchpbnkaa.NetB Go.Proofs.Ytglhojkchpbnkaa.NetR Go.Proofs.Ytglhojkchpbnkaa.NetS
/-- The reference's net at r, with its messages. -/
def refT (r : Nat) (ms : List S29) : Thing where
  H := fun w base ok => ∃ okl v, RefIs base okl w r v ms ∧ ok r ∧ ∀ k, okl k → ok k ∧ k ≠ r
  mono := fun h ⟨okl, v, hN, hr, ho⟩ => ⟨okl, v, hN, h _ hr, fun k hk => ⟨h _ (ho k hk).1, (ho k hk).2⟩⟩
  bound := fun {w base ok} ⟨okl, v, hN, hr, ho⟩ => ⟨fun k => okl k ∧ k < w.heap.size, v, hN.old (Below.refl _ _), ⟨hr, hN.lt⟩, fun k hk => ⟨⟨(ho k hk.1).1, hk.2⟩, (ho k hk.1).2⟩⟩
  lower := fun hb ⟨okl, v, hN, hr, ho⟩ => ⟨okl, v, ⟨hN.1, Nat.le_trans hb hN.2.1, Kd.S_lower hN.2.2 hb⟩, hr, ho⟩
  step := fun ⟨okl, v, hN, hr, ho⟩ hs hm => ⟨okl, v, ⟨by rw [hm _ hr hN.lt]; exact hN.1, hN.2.1, Kd.S_step hN.2.2 (fun k hk hl => hm k (ho k hk).1 hl)⟩, hr, ho⟩
variable {base r i : Nat} {ts ts' : List Thing} {ms ms' : List S29} {w : World}
theorem ref_back {ms1 : List S29} {okl U : Nat → Prop} {v' : Value} {w w' : World} (hN : RefIs base (fun k => okl k ∨ w.heap.size ≤ k) w' r v' ms1) (hrl : r < w.heap.size) (hr : U r) (ho : ∀ k, okl k → U k ∧ k ≠ r) :
    (refT r ms1).H w' base (fun k => U k ∨ w.heap.size ≤ k) :=
  ⟨_, v', hN, .inl hr, fun k hk => hk.elim (fun q => ⟨.inl (ho k q).1, (ho k q).2⟩) (fun q => ⟨.inr q, by omega⟩)⟩
theorem ref_keep {okl U : Nat → Prop} {v : Value} {w w' : World} (hS : Kd.S k29 29 w base okl v ms) (hr : U r) (ho : ∀ k, okl k → U k ∧ k ≠ r) (hK : Kept w w' (fun k => k = r ∨ some k = v.ownBlock)) : Kept w w' U :=
  kept_mono hK (fun k hk => hk.elim (fun q => by rw [q]; exact hr) (fun q => (ho k (own_ok hS q)).1))
theorem send_r (hA : Apt base w ts) (hi : ts[i]? = some (refT r ms)) (a0 a1 : Int) (A2 : Option Addr) (n2 c2 : Nat) (l2 : List Int) (hn : n2 = l2.length) (hlen : ms.length < 512) (hl : l2.length ≤ 65536) (hC2 : Kd.C (Kd.int .u8) w A2 l2.length l2) (hc2 : l2.length ≤ c2) (hm : ms ++ [⟨a0, a1, l2⟩] = ms') (ht : ts.set i (refT r ms') = ts') :
    Calls Try.prog 21 #[.pointer (some ⟨r, 0, none⟩), .agg #[.int .i64 a0, .int .i64 a1, .slice A2 n2 c2]] w fun e w' => e = .returned (.int .i64 0) ∧ Apt base w' ts' ∧ Below base w w' := by
  subst hn; subst hm; subst ht
  obtain ⟨U, ⟨okl, v, hN, hr, ho⟩, _, hback⟩ := hA.op hi
  obtain ⟨ao, cap, rfl⟩ := Kd.S_slice hN.2.2
  refine (rsend_ok base r (fun k => okl k ∨ w.heap.size ≤ k) ao cap ms a0 a1 A2 c2 l2 w (hN.mono (fun k hk => .inl hk)) (fun k hk => .inr hk) hlen hl hC2 hc2).mono fun e w' ⟨he, v', h1, h2, h3⟩ => ⟨he, ?_, h2⟩
  exact hback w' _ h2.size (ref_back h1 hN.lt hr ho) (ref_keep hN.2.2 hr ho h3)
theorem look_r (hA : Apt base w ts) (hi : ts[i]? = some (refT r ms)) (j : Int) (p : S29) (k : Int) (hx : lookS ms j = (p, k)) (hl : ∀ p ∈ ms, p.f2.length ≤ 65536) :
    Calls Try.prog 22 #[.pointer (some ⟨r, 0, none⟩), .int .i64 j] w fun e w' => ∃ A c, e = .returned (.tuple #[.agg #[.int .i64 p.f0, .int .i64 p.f1, .slice A p.f2.length c], .int .i64 k]) ∧ (p.f2.length ≤ c ∧ Kd.C (Kd.int .u8) w' A p.f2.length p.f2) ∧ Below w.heap.size w w' := by
  obtain ⟨U, ⟨okl, v, hN, hr, ho⟩, _, hback⟩ := hA.op hi
  obtain ⟨ao, cap, rfl⟩ := Kd.S_slice hN.2.2
  unfold lookS at hx
  split at hx
  · rename_i q
    cases hx
    have hp := inB_get q
    have e1 : ((j.toNat : Nat) : Int) = j := by unfold inB at q; omega
    have := rlook_ok base r j.toNat okl ao cap ms _ w hN hp (hl _ (List.mem_of_getElem? hp))
    rw [e1] at this
    refine this.mono fun e w' ⟨vb, he, hR, hB⟩ => ?_
    obtain ⟨A, c, rfl⟩ := Kd.R_slice hR
    exact ⟨A, c, he, ⟨(Kd.R_reads' hR).2.1, (Kd.R_reads' hR).2.2⟩, hB⟩
  · rename_i q
    cases hx
    refine (rlook_bad r ms.length cap ao j q w hN.cell).mono fun e w' ⟨he, hB⟩ => ⟨none, 0, he, ⟨Nat.le_refl _, Kd.C_nil _ _⟩, hB⟩
theorem take_r (hA : Apt base w ts) (hi : ts[i]? = some (refT r ms)) (hbs : base ≤ w.heap.size) (hlen : ms.length ≤ 512) (j : Int) (p : S29) (k : Int) (hx : lookS ms j = (p, k)) (hm : takeS ms j = ms') :
    Calls Try.prog 23 #[.pointer (some ⟨r, 0, none⟩), .int .i64 j] w fun e w' => ∃ A c, e = .returned (.tuple #[.agg #[.int .i64 p.f0, .int .i64 p.f1, .slice A p.f2.length c], .int .i64 k]) ∧ Apt base w' (ts.set i ((refT r ms').both (rowT (.slice A p.f2.length c) p.f2))) ∧ Below base w w' := by
  obtain ⟨U, ⟨okl, v, hN, hr, ho⟩, _, hback⟩ := hA.op hi
  obtain ⟨ao, cap, rfl⟩ := Kd.S_slice hN.2.2
  unfold lookS at hx
  unfold takeS at hm
  split at hx
  · rename_i q
    rw [if_pos q] at hm
    cases hx
    subst hm
    have hp := inB_get q
    have e1 : ((j.toNat : Nat) : Int) = j := by unfold inB at q; omega
    have := rtake_ok base r j.toNat okl ao cap ms _ w hN hp hlen
    rw [e1] at this
    refine this.mono fun e w' ⟨A, c, he, hR, ⟨v', h1⟩, h2, h3⟩ => ⟨A, c, he, ?_, h2⟩
    exact hback w' _ h2.size ⟨ref_back h1 hN.lt hr ho, Kd.R_mono hR (fun b hb => .inl (ho b hb).1)⟩ (kept_mono h3 (fun k hk => by rw [hk]; exact hr))
  · rename_i q
    rw [if_neg q] at hm
    cases hx
    subst hm
    refine (rtake_bad r ms.length cap ao j q w hN.cell).mono fun e w' ⟨he, hB⟩ => ⟨none, 0, he, ?_, hB.mono hbs⟩
    exact hback w' _ hB.size ⟨ref_back ((hN.mono (fun k hk => .inl hk)).kept hB) hN.lt hr ho, Kd.R_nil _ _ _ _ _⟩ ⟨hB.size, fun k hk _ => hB.block k hk⟩
theorem twice_r (hA : Apt base w ts) (hi : ts[i]? = some (refT r ms)) (j : Int) (k : Int) (hlen : ms.length < 512) (hl : ∀ p ∈ ms, p.f2.length ≤ 65536) (hx : twiceS ms j = (k, ms')) (ht : ts.set i (refT r ms') = ts') :
    Calls Try.prog 24 #[.pointer (some ⟨r, 0, none⟩), .int .i64 j] w fun e w' => e = .returned (.int .i64 k) ∧ Apt base w' ts' ∧ Below base w w' := by
  subst ht
  obtain ⟨U, ⟨okl, v, hN, hr, ho⟩, _, hback⟩ := hA.op hi
  obtain ⟨ao, cap, rfl⟩ := Kd.S_slice hN.2.2
  unfold twiceS at hx
  split at hx
  · rename_i q
    cases hx
    have hp := inB_get q
    have e1 : ((j.toNat : Nat) : Int) = j := by unfold inB at q; omega
    have := rtwice_ok base r j.toNat (fun k => okl k ∨ w.heap.size ≤ k) ao cap ms _ w (hN.mono (fun k hk => .inl hk)) hp (hl _ (List.mem_of_getElem? hp)) (fun k hk => .inr hk) hlen
    rw [e1] at this
    refine this.mono fun e w' ⟨he, v', h1, h2, h3⟩ => ⟨he, ?_, h2⟩
    exact hback w' _ h2.size (ref_back h1 hN.lt hr ho) (ref_keep hN.2.2 hr ho h3)
  · rename_i q
    cases hx
    refine (rtwice_bad r ms.length cap ao j q w hN.cell).mono fun e w' ⟨he, hw⟩ => ?_
    subst hw
    exact ⟨he, hback w _ (Nat.le_refl _) (ref_back (hN.mono (fun k hk => .inl hk)) hN.lt hr ho) ⟨Nat.le_refl _, fun _ _ _ => rfl⟩, Below.refl _ _⟩
theorem spoil_r (hA : Apt base w ts) (hi : ts[i]? = some (refT r ms)) (j t m : Int) (k : Int) (hl : ∀ p ∈ ms, p.f2.length ≤ 65536) (hx : spoilS ms j t m = (k, ms')) (ht : ts.set i (refT r ms') = ts') :
    Calls Try.prog 25 #[.pointer (some ⟨r, 0, none⟩), .int .i64 j, .int .i64 t, .int .u8 m] w fun e w' => e = .returned (.int .i64 k) ∧ Apt base w' ts' ∧ Below base w w' := by
  subst ht
  obtain ⟨U, ⟨okl, v, hN, hr, ho⟩, _, hback⟩ := hA.op hi
  obtain ⟨ao, cap, rfl⟩ := Kd.S_slice hN.2.2
  unfold spoilS at hx
  split at hx
  · rename_i q
    cases hx
    obtain ⟨q, q1, q2⟩ := q
    have hp := inB_get q
    have e1 : ((j.toNat : Nat) : Int) = j := by unfold inB at q; omega
    have e2 : ((t.toNat : Nat) : Int) = t := by omega
    have := rspoil_ok base r j.toNat t.toNat okl ao cap ms _ m w hN hp (by omega) (hl _ (List.mem_of_getElem? hp))
    rw [e1, e2] at this
    refine this.mono fun e w' ⟨he, h1, h2, h3⟩ => ⟨he, ?_, h2⟩
    unfold hit
    rw [e2]
    exact hback w' _ h2.size (ref_back (h1.mono (fun k hk => .inl hk)) hN.lt hr ho) (kept_mono h3 (fun k hk => (ho k hk).1))
  · rename_i q
    cases hx
    have same : ∀ w' : World, w = w' → Apt base w' (ts.set i (refT r ms)) ∧ Below base w w' := fun w' hw => by
      subst hw
      exact ⟨hback w _ (Nat.le_refl _) (ref_back (hN.mono (fun k hk => .inl hk)) hN.lt hr ho) ⟨Nat.le_refl _, fun _ _ _ => rfl⟩, Below.refl _ _⟩
    by_cases q1 : inB ms j
    · have hp := inB_get q1
      have e1 : ((j.toNat : Nat) : Int) = j := by unfold inB at q1; omega
      have := rspoil_far base r j.toNat okl ao cap ms _ t m w hN hp (fun h => q ⟨q1, h.1, h.2⟩)
      rw [e1] at this
      exact this.mono fun e w' ⟨he, hw⟩ => ⟨he, same w' hw⟩
    · exact (rspoil_bad r ms.length cap ao j t m q1 w hN.cell).mono fun e w' ⟨he, hw⟩ => ⟨he, same w' hw⟩
theorem all_r (hA : Apt base w ts) (hi : ts[i]? = some (refT r ms)) :
    Calls Try.prog 26 #[.pointer (some ⟨r, 0, none⟩)] w fun e w' => ∃ A c, e = .returned (.slice A ms.length c) ∧ Apt base w' (ts.set i ((refT r []).both (listT (.slice A ms.length c) ms))) ∧ Below base w w' := by
  obtain ⟨U, ⟨okl, v, hN, hr, ho⟩, _, hback⟩ := hA.op hi
  obtain ⟨ao, cap, rfl⟩ := Kd.S_slice hN.2.2
  refine (rall_ok base r (fun k => okl k ∨ w.heap.size ≤ k) ao ms.length cap ms w (hN.mono (fun k hk => .inl hk))).mono fun e w' ⟨he, hS, h1, h2, h3⟩ => ⟨ao, cap, he, ?_, h2⟩
  exact hback w' _ h2.size ⟨ref_back h1 hN.lt hr ho, Kd.S_mono hS (fun b hb => hb.elim (fun q => .inl (ho b q).1) (fun q => .inr q))⟩ (kept_mono h3 (fun k hk => by rw [hk]; exact hr))
/-- The reference's slice, as it is loaded. -/
theorem ref_cell (hA : Apt base w ts) (hi : ts[i]? = some (refT r ms)) : ∃ A c, w.cell? ⟨r, 0, none⟩ = some (.slice A ms.length c) ∧ ms.length ≤ c ∧ Kd.C k29 w A ms.length ms := by
  obtain ⟨U, ⟨okl, v, hN, hr, ho⟩, _, hback⟩ := hA.op hi
  obtain ⟨ao, cap, rfl⟩ := Kd.S_slice hN.2.2
  exact ⟨ao, cap, hN.cell, (Kd.S_reads' hN.2.2).2.1, (Kd.S_reads' hN.2.2).2.2⟩
theorem ref_add {w1 : World} (hA : Apt base w ts) (hb : base ≤ w.heap.size) (hB : Below w.heap.size w w1) (hx : w1.heap[w.heap.size]? = some (.cells #[.slice none 0 0] 48 (0, 0))) : Apt base w1 (ts ++ [refT w.heap.size []]) :=
  hA.add hB ⟨fun _ => False, .slice none 0 0, ⟨hx, hb, Kd.S_nil _ _ _ _ _⟩, Nat.le_refl _, fun k hk => hk.elim⟩
/-- What a thing with a row beside it gives to read. -/
theorem both_row {t : Thing} {A : Option Addr} {n c : Nat} {l : List Int} (hA : Apt base w ts) (hi : ts[i]? = some (t.both (rowT (.slice A n c) l))) : n = l.length ∧ n ≤ c ∧ Kd.C (Kd.int .u8) w A l.length l := by
  obtain ⟨U, h, _⟩ := hA.op hi
  exact Kd.R_reads' h.2
theorem both_list {t : Thing} {A : Option Addr} {n c : Nat} {l : List S29} (hA : Apt base w ts) (hi : ts[i]? = some (t.both (listT (.slice A n c) l))) : n = l.length ∧ n ≤ c ∧ Kd.C k29 w A l.length l := by
  obtain ⟨U, h, _⟩ := hA.op hi
  exact Kd.S_reads' h.2
theorem both_drop {t u : Thing} (hA : Apt base w ts) (hi : ts[i]? = some (t.both u)) (ht : ts.set i t = ts') : Apt base w ts' := by
  subst ht
  exact hA.imp hi (fun _ h => h.1)
end Go.Proofs.Ytglhojkchpbnkaa.NetC
