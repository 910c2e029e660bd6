/- PROVED: what NetPlays asks, in plain lists. No condition beyond what each line says. -/
import Derived.Test.YtglhojkchpbnkaaNetC
import Derived.WalkKit
import Derived.WalkSpells
import Derived.WalkLawsBesides
import Derived.Outline
import Derived.Lib.Hide
import Derived.Deep.LoopGhost
import Derived.Deep.RegionHeld3
import Derived.Deep.DeepCutAuto
import Derived.Deep.RegionLaw
import Derived.BigQuiet
import Derived.Deep.QuietTactic
namespace Go.Proofs.Ytglhojkchpbnkaa.NetD
open Go.RowKit Go.Proofs.Ytglhojkchpbnkaa.PNetPlays Go.Proofs.Ytglhojkchpbnkaa.Net2 Go.Proofs.Ytglhojkchpbnkaa.NetTake Go.Proofs.YtglhojkchpbnkaaW.PrintWords Go.Proofs.YtglhojkchpbnkaaW.PrintLast Go.Proofs.YtglhojkchpbnkaaW.PrintMore
open Go.Proofs.Ytglhojkchpbnkaa.NetAwake (world_gen)
open Go.Proofs.Ytglhojkchpbnkaa.Net (own_is info29 k29_types at_in len_is look_fin)
set_option linter.unusedSimpArgs false
set_option linter.unusedVariables false
open Go.Proofs.Ytglhojkchpbnkaa.NetA Go.Proofs.Ytglhojkchpbnkaa.NetB Go.Proofs.Ytglhojkchpbnkaa.NetR Go.Proofs.Ytglhojkchpbnkaa.NetS Go.Proofs.Ytglhojkchpbnkaa.NetC
theorem add_blk (a : Addr) (n : Nat) : (a.add n).block = a.block := by unfold Addr.add; split <;> rfl
theorem cell_b {base : Nat} {w w1 : World} {a : Addr} {v : Value} (h : Below base w w1) (hb : a.block < base) (hc : w.cell? a = some v) : w1.cell? a = some v := (World.cell?_of_block (h.block _ hb)).trans hc
def blk (g : Nat) (cs : Array Value) (t : Nat) : Thing where
  H := fun w _ ok => ok g ∧ w.heap[g]? = some (.cells cs t (0, 0))
  mono := fun h hb => ⟨h g hb.1, hb.2⟩
  bound := fun h => ⟨⟨h.1, blk_lt h.2⟩, h.2⟩
  lower := fun _ h => h
  step := fun h _ hm => ⟨h.1, (hm g h.1 (blk_lt h.2)).trans h.2⟩
theorem blk_at {base : Nat} {ts : List Thing} {w : World} {i g t : Nat} {cs : Array Value} (h : Apt base w ts) (hi : ts[i]? = some (blk g cs t)) : w.heap[g]? = some (.cells cs t (0, 0)) := by
  obtain ⟨U, hR⟩ := h.get hi
  exact hR.2
theorem Apt.init {base : Nat} {w : World} {l : List Thing} {t : Thing} (h : Apt base w (l ++ [t])) : Apt base w l := by
  have := h.take l.length
  rwa [List.take_left' rfl] at this
theorem last_at {l : List Thing} {t : Thing} : (l ++ [t])[l.length]? = some t := by
  rw [List.getElem?_append_right (Nat.le_refl _)]; simp
theorem C_low {w w1 : World} {base : Nat} {A : Option Addr} {n : Nat} {l : List Int} (h : Kd.C (Kd.int .u8) w A n l) (hA : ∀ a, A = some a → 0 < n → a.block < base) (hb : Below base w w1) : Kd.C (Kd.int .u8) w1 A n l := by
  refine ⟨h.1, h.2.1, fun hn => ?_⟩
  obtain ⟨ad, e, hc⟩ := h.2.2 hn
  refine ⟨ad, e, fun j p hj => ?_⟩
  obtain ⟨c, h1, h2, h3⟩ := hc j p hj
  exact ⟨c, h1, h2, fun i u hu => (World.cell?_of_block (by rw [add_blk]; exact hb.block _ (hA ad e hn))).trans (h3 i u hu)⟩
theorem w_in {n : Int} (h : -9223372036854775808 ≤ n) (h' : n ≤ 9223372036854775807) : wrap64 n = n := by
  unfold wrap64
  omega
theorem same_l (l : List Int) (hm : l.length ≤ 65536) (d : Nat) : ∀ (k : Nat) (i : Int), 0 ≤ i → i ≤ (l.length : Int) → (l.length : Int) - i = d → d < k → juratref01_Same.l0 k l l i = some true := by
  induction d with
  | zero =>
    intro k i i0 i1 hd hk
    obtain ⟨k, rfl⟩ : ∃ m, k = m + 1 := ⟨k - 1, by omega⟩
    rw [juratref01_Same.l0, if_neg (by omega)]
  | succ d ih =>
    intro k i i0 i1 hd hk
    obtain ⟨k, rfl⟩ : ∃ m, k = m + 1 := ⟨k - 1, by omega⟩
    rw [juratref01_Same.l0, if_pos (by omega), if_pos i0, if_pos (by omega), if_pos rfl, w_in (by omega) (by omega)]
    exact ih k (i + 1) (by omega) (by omega) (by omega) (by omega)
theorem one_true' (k : Nat) (a b : Int) (l : List Int) (hl : l.length ≤ 500) (hk : 500 < k) : juratref24_SameOne.f k a b l a b l = some true := by
  unfold juratref24_SameOne.f
  rw [if_pos rfl, if_pos rfl]
  unfold juratref01_Same.f
  rw [if_pos rfl, same_l l (by omega) l.length k 0 (by omega) (by omega) (by omega) (by omega)]
  rfl
theorem all_l (l : List S29) (hm : l.length ≤ 80) (hl : ∀ p ∈ l, p.f2.length ≤ 500) (d : Nat) : ∀ (k : Nat) (i : Int), 0 ≤ i → i ≤ (l.length : Int) → (l.length : Int) - i = d → d + 501 < k → juratref24_Same.l0 k l l i = some true := by
  induction d with
  | zero =>
    intro k i i0 i1 hd hk
    obtain ⟨k, rfl⟩ : ∃ m, k = m + 1 := ⟨k - 1, by omega⟩
    rw [juratref24_Same.l0, if_neg (by omega)]
  | succ d ih =>
    intro k i i0 i1 hd hk
    obtain ⟨k, rfl⟩ : ∃ m, k = m + 1 := ⟨k - 1, by omega⟩
    have hp : (rd_T29 l i).f2.length ≤ 500 := by
      unfold rd_T29
      rw [List.getD, List.getElem?_eq_getElem (show i.toNat < l.length by omega)]
      exact hl _ (List.getElem_mem _)
    rw [juratref24_Same.l0, if_pos (by omega), if_pos i0, if_pos (by omega), one_true' k _ _ _ hp (by omega)]
    simp only [Option.bind_some, if_true]
    rw [w_in (by omega) (by omega)]
    exact ih k (i + 1) (by omega) (by omega) (by omega) (by omega)
theorem one_z (A0 A1 : Option Addr) (n0 n1 c0 c1 : Nat) (a b : Int) (l : List Int) (w : World) (e0 : n0 = l.length) (e1 : n1 = l.length) (hl : l.length ≤ 500) (h0 : l.length ≤ c0 ∧ Kd.C (Kd.int .u8) w A0 l.length l) (h1 : l.length ≤ c1 ∧ Kd.C (Kd.int .u8) w A1 l.length l) :
    Calls Try.prog 15 #[.agg #[.int .i64 a, .int .i64 b, .slice A0 n0 c0], .agg #[.int .i64 a, .int .i64 b, .slice A1 n1 c1]] w fun e w' => e = .returned (.bool true) ∧ Below w.heap.size w w' := by
  subst e0; subst e1
  exact juratref24_SameOne.calls 600 a b A0 c0 l a b A1 c1 l true w h0.2 h0.1 h1.2 h1.1 (one_true' 600 a b l hl (by decide))
theorem same_z (A0 A1 : Option Addr) (n0 n1 c0 c1 : Nat) (l : List S29) (w : World) (e0 : n0 = l.length) (e1 : n1 = l.length) (h80 : l.length ≤ 80) (h5 : ∀ p ∈ l, p.f2.length ≤ 500) (h0 : l.length ≤ c0 ∧ Kd.C k29 w A0 l.length l) (h1 : l.length ≤ c1 ∧ Kd.C k29 w A1 l.length l) :
    Calls Try.prog 18 #[.slice A0 n0 c0, .slice A1 n1 c1] w fun e w' => e = .returned (.bool true) ∧ Below w.heap.size w w' := by
  subst e0; subst e1
  refine juratref24_Same.calls 700 A0 c0 l A1 c1 l true w h0.2 h0.1 h1.2 h1.1 ?_
  unfold juratref24_Same.f
  rw [if_pos rfl]
  exact all_l _ h80 h5 l.length _ 0 (by omega) (by omega) (by simp) (by omega)
theorem copy_z (a b : Int) (A : Option Addr) (n c : Nat) (l : List Int) (w : World) (e0 : n = l.length) (hl : l.length ≤ 500) (h0 : l.length ≤ c ∧ Kd.C (Kd.int .u8) w A l.length l) :
    Calls Try.prog 13 #[.agg #[.int .i64 a, .int .i64 b, .slice A n c]] w fun e w' => ∃ Ao co, e = .returned (.agg #[.int .i64 a, .int .i64 b, .slice Ao l.length co]) ∧ (l.length ≤ co ∧ Kd.C (Kd.int .u8) w' Ao l.length l) ∧ Below w.heap.size w w' := by
  subst e0
  refine (juratref24_Copy.calls a b A c l a b l w h0.2 h0.1 (copy_is a b l (by omega))).mono fun e w' ⟨v, he, hR, hB⟩ => ?_
  obtain ⟨Ao, co, rfl⟩ := Kd.R_slice hR
  exact ⟨Ao, co, he, ⟨(Kd.R_reads' hR).2.1, (Kd.R_reads' hR).2.2⟩, hB⟩
def Short (l : List S50) : Prop := l.length ≤ 80 ∧ ∀ x ∈ l, x.f4.f2.length ≤ 500
theorem long_l (l : List S50) (hl : l.length ≤ 80) : ∀ (k i : Nat), i ≤ l.length → l.length - i < k → ∃ b, juratlaw24_long.l0 k l i = some b ∧ (b = false → ∀ j, i ≤ j → j < l.length → (l.getD j z50).f4.f2.length ≤ 500)
  | 0, i, _, hk => by omega
  | k + 1, i, hi, hk => by
    unfold juratlaw24_long.l0
    by_cases q : i < l.length
    · rw [if_pos (by omega), if_pos (by omega)]
      have e : rd_T50 l (i : Int) = l.getD i z50 := rfl
      rw [e]
      by_cases q1 : 500 < (l.getD i z50).f4.f2.length
      · rw [if_pos (by omega)]
        exact ⟨true, rfl, fun h => by cases h⟩
      · rw [if_neg (by omega), show wrap64 ((i : Int) + 1) = ((i + 1 : Nat) : Int) by unfold wrap64; omega]
        obtain ⟨b, hb, hB⟩ := long_l l hl k (i + 1) (by omega) (by omega)
        refine ⟨b, hb, fun h j hj hjl => ?_⟩
        by_cases q3 : j = i
        · subst q3; omega
        · exact hB h j (by omega) hjl
    · rw [if_neg (by omega)]
      exact ⟨false, rfl, fun _ j hj hjl => by omega⟩
theorem long_f (l : List S50) : ∃ b, juratlaw24_long.f 82 l = some b ∧ (b = false → Short l) := by
  unfold juratlaw24_long.f
  by_cases q : 80 < l.length
  · rw [if_pos (by omega)]
    exact ⟨true, rfl, fun h => by cases h⟩
  · rw [if_neg (by omega)]
    obtain ⟨b, hb, hB⟩ := long_l l (by omega) 82 0 (by omega) (by omega)
    refine ⟨b, hb, fun h => ⟨by omega, fun x hx => ?_⟩⟩
    obtain ⟨j, hj, rfl⟩ := List.getElem_of_mem hx
    have := hB h j (Nat.zero_le _) hj
    rwa [List.getD, List.getElem?_eq_getElem hj] at this
theorem long_t (l : List S50) (b : Bool) (A : Option Addr) (c : Nat) (w : World) (hb : juratlaw24_long.f 82 l = some b) (h : Kd.C k50 w A l.length l) (hc : l.length ≤ c) : Calls Try.prog 20 #[.slice A l.length c] w fun e w' => e = .returned (.bool b) ∧ Below w.heap.size w w' :=
  (juratlaw24_long.calls 82 A c l b w h hc hb).mono fun e w' ⟨he, hd⟩ => ⟨he, hd.below⟩
theorem call_in {w : World} {A : Option Addr} {l : List S50} (h : Kd.C k50 w A l.length l) {k : Nat} {x : S50} (hx : l[k]? = some x) : ∃ b off A6 c6, A = some ⟨b, off, none⟩ ∧ b < w.heap.size ∧ w.cell? ⟨b, off + k * 7, none⟩ = some (.int .i64 x.f0) ∧ w.cell? ⟨b, off + k * 7 + 1, none⟩ = some (.int .i64 x.f1) ∧ w.cell? ⟨b, off + k * 7 + 2, none⟩ = some (.int .i64 x.f2) ∧ w.cell? ⟨b, off + k * 7 + 3, none⟩ = some (.int .u8 x.f3) ∧ w.cell? ⟨b, off + k * 7 + 4, none⟩ = some (.int .i64 x.f4.f0) ∧ w.cell? ⟨b, off + k * 7 + 5, none⟩ = some (.int .i64 x.f4.f1) ∧ w.cell? ⟨b, off + k * 7 + 6, none⟩ = some (.slice A6 x.f4.f2.length c6) ∧ x.f4.f2.length ≤ c6 ∧ Kd.C (Kd.int .u8) w A6 x.f4.f2.length x.f4.f2 := by
  have hk : k < l.length := (List.getElem?_eq_some_iff.1 hx).1
  obtain ⟨b, off, rfl, hb, hel⟩ := LRead.C_addr h (by decide) (by omega)
  obtain ⟨c, hc, hK, hcell⟩ := hel k x hx
  obtain ⟨A6, c6, rfl, l6, g6⟩ := k50_open hK
  exact ⟨b, off, A6, c6, rfl, hb, hcell 0 _ rfl, hcell 1 _ rfl, hcell 2 _ rfl, hcell 3 _ rfl, hcell 4 _ rfl, hcell 5 _ rfl, hcell 6 _ rfl, l6, g6⟩
theorem held7 {base : Nat} {l : List Thing} {w : World} {g : Nat} {a b c d e f h : Value} {i : Nat} (hA : Apt base w l) (hi : l[i]? = some (blk g #[a, b, c, d, e, f, h] 50)) : w.cell? ⟨g, 0, none⟩ = some a ∧ w.cell? ⟨g, 1, none⟩ = some b ∧ w.cell? ⟨g, 2, none⟩ = some c ∧ w.cell? ⟨g, 3, none⟩ = some d ∧ w.cell? ⟨g, 4, none⟩ = some e ∧ w.cell? ⟨g, 5, none⟩ = some f ∧ w.cell? ⟨g, 6, none⟩ = some h :=
  ⟨(blk_cell (blk_at hA hi) 0).trans rfl, (blk_cell (blk_at hA hi) 1).trans rfl, (blk_cell (blk_at hA hi) 2).trans rfl, (blk_cell (blk_at hA hi) 3).trans rfl, (blk_cell (blk_at hA hi) 4).trans rfl, (blk_cell (blk_at hA hi) 5).trans rfl, (blk_cell (blk_at hA hi) 6).trans rfl⟩
theorem held3 {base : Nat} {l : List Thing} {w : World} {g : Nat} {a b c : Value} {i : Nat} (hA : Apt base w l) (hi : l[i]? = some (blk g #[a, b, c] 29)) : w.cell? ⟨g, 0, none⟩ = some a ∧ w.cell? ⟨g, 1, none⟩ = some b ∧ w.cell? ⟨g, 2, none⟩ = some c :=
  ⟨(blk_cell (blk_at hA hi) 0).trans rfl, (blk_cell (blk_at hA hi) 1).trans rfl, (blk_cell (blk_at hA hi) 2).trans rfl⟩
/-- So many messages, none long. -/
structure okN (k : Nat) (ms : List S29) : Prop where
  len : ms.length ≤ k
  body : ∀ p ∈ ms, p.f2.length ≤ 500
theorem okN.b6 {k : Nat} {ms : List S29} (h : okN k ms) : ∀ p ∈ ms, p.f2.length ≤ 65536 := fun p hp => Nat.le_trans (h.body p hp) (by decide)
theorem okN.nil : okN 0 [] := ⟨Nat.le_refl _, fun p hp => by cases hp⟩
theorem okN.mono {k m : Nat} {ms : List S29} (h : okN k ms) (hm : k ≤ m) : okN m ms := ⟨Nat.le_trans h.len hm, h.body⟩
theorem okN.getD {k : Nat} {ms : List S29} (h : okN k ms) (i : Nat) : (ms.getD i z29).f2.length ≤ 500 := by
  rw [List.getD]
  cases hq : ms[i]? with
  | none => exact Nat.zero_le _
  | some p => exact h.body p (List.mem_of_getElem? hq)
theorem okN.look {k : Nat} {ms : List S29} (h : okN k ms) (i : Int) : (lookS ms i).1.f2.length ≤ 500 := by
  unfold lookS
  split
  · exact h.getD _
  · exact Nat.zero_le _
theorem okN.send {k : Nat} {ms : List S29} (h : okN k ms) (p : S29) (hp : p.f2.length ≤ 500) : okN (k + 1) (ms ++ [p]) :=
  ⟨by have := h.len; simp; omega, fun q hq => by
    rcases List.mem_append.1 hq with hq | hq
    · exact h.body q hq
    · rw [List.mem_singleton] at hq; rw [hq]; exact hp⟩
theorem okN.take {k : Nat} {ms : List S29} (h : okN k ms) (i : Int) : okN (k + 1) (takeS ms i) := by
  unfold takeS
  split
  · exact ⟨Nat.le_trans (List.length_eraseIdx_le _ _) (Nat.le_trans h.len (Nat.le_add_right _ _)), fun p hp => h.body p (List.mem_of_mem_eraseIdx hp)⟩
  · exact h.mono (Nat.le_add_right _ _)
theorem okN.twice {k : Nat} {ms : List S29} (h : okN k ms) (i : Int) : okN (k + 1) (twiceS ms i).2 := by
  unfold twiceS
  split
  · exact h.send _ (h.getD _)
  · exact h.mono (Nat.le_add_right _ _)
theorem okN.spoil {k : Nat} {ms : List S29} (h : okN k ms) (i j m : Int) : okN (k + 1) (spoilS ms i j m).2 := by
  unfold spoilS
  split
  · refine ⟨by rw [List.length_set]; exact Nat.le_trans h.len (Nat.le_add_right _ _), fun p hp => ?_⟩
    rcases List.mem_or_eq_of_mem_set hp with hp | hp
    · exact h.body p hp
    · rw [hp]
      show (List.set _ _ _).length ≤ 500
      rw [List.length_set]
      exact h.getD _
  · exact h.mono (Nat.le_add_right _ _)
theorem ref_new {base N r2 : Nat} {w1 : World} (h : N ≤ r2) (hb : base ≤ N) (hx : w1.heap[r2]? = some (.cells #[.slice none 0 0] 48 (0, 0))) : (refT r2 []).H w1 base (fun k => N ≤ k) :=
  ⟨fun _ => False, .slice none 0 0, ⟨hx, Nat.le_trans hb h, Kd.S_nil _ _ _ _ _⟩, h, fun k hk => hk.elim⟩
/-- The reference's net, its slice told. -/
def refV (r : Nat) (v : Value) (ms : List S29) : Thing where
  H := fun w base ok => ∃ okl, RefIs base okl w r v ms ∧ ok r ∧ ∀ k, okl k → ok k ∧ k ≠ r
  mono := fun h ⟨okl, hN, hr, ho⟩ => ⟨okl, hN, h _ hr, fun k hk => ⟨h _ (ho k hk).1, (ho k hk).2⟩⟩
  bound := fun {w base ok} ⟨okl, hN, hr, ho⟩ => ⟨fun k => okl k ∧ k < w.heap.size, hN.old (Below.refl _ _), ⟨hr, hN.lt⟩, fun k hk => ⟨⟨(ho k hk.1).1, hk.2⟩, (ho k hk.1).2⟩⟩
  lower := fun hb ⟨okl, hN, hr, ho⟩ => ⟨okl, ⟨hN.1, Nat.le_trans hb hN.2.1, Kd.S_lower hN.2.2 hb⟩, hr, ho⟩
  step := fun ⟨okl, hN, hr, ho⟩ hs hm => ⟨okl, ⟨by rw [hm _ hr hN.lt]; exact hN.1, hN.2.1, Kd.S_step hN.2.2 (fun k hk hl => hm k (ho k hk).1 hl)⟩, hr, ho⟩
theorem ref_open {base r i : Nat} {w : World} {ts : List Thing} {ms : List S29} (h : Apt base w ts) (ht : ts[i]? = some (refT r ms)) : ∃ A c, Apt base w (ts.set i (refV r (.slice A ms.length c) ms)) := by
  obtain ⟨O, h1, h2, h3⟩ := h
  obtain ⟨okl, v, hN, hr, ho⟩ := h3 i _ ht
  obtain ⟨A, c, rfl⟩ := Kd.S_slice hN.2.2
  refine ⟨A, c, O, h1, h2, fun j t' ht' => ?_⟩
  have hl : i < ts.length := (List.getElem?_eq_some_iff.1 ht).1
  by_cases q : i = j
  · subst q
    rw [List.getElem?_set_self hl] at ht'
    injection ht' with ht'
    subst ht'
    exact ⟨okl, hN, hr, ho⟩
  · rw [List.getElem?_set_ne q] at ht'
    exact h3 j t' ht'
theorem refv_at {base r i n c : Nat} {A : Option Addr} {w : World} {ts : List Thing} {ms : List S29} (h : Apt base w ts) (ht : ts[i]? = some (refV r (.slice A n c) ms)) : w.cell? ⟨r, 0, none⟩ = some (.slice A n c) ∧ ms.length ≤ c ∧ Kd.C k29 w A ms.length ms := by
  obtain ⟨U, okl, hN, _⟩ := h.get ht
  have := Kd.S_reads' hN.2.2
  exact ⟨hN.cell, by omega, this.2.2⟩
theorem awake_a (w : World) : Calls Try.prog 8 #[] w fun e w' => e = .returned (.bool true) ∧ Below w.heap.size w w' := NetAwake.awake_ok w
end Go.Proofs.Ytglhojkchpbnkaa.NetD
