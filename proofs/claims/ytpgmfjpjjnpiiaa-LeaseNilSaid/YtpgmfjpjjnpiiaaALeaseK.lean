/- PROVED: contracts of ballot.Count and ballot.Won. No condition beyond what each line says. -/
import Derived.Test.YtpgmfjpjjnpiiaaALeaseD
import Derived.Test.YtpgmfjpjjnpiiaaALRead
import Derived.WalkKit
import Derived.WalkSpells
import Derived.WalkLawsBesides
import Derived.Outline
import Derived.Lib.Hide
import Derived.Deep.LoopGhost
import Derived.Deep.DeepCutAuto
import Derived.BigQuiet
import Derived.Deep.QuietTactic
import Derived.Deep.RegionHeld3
import Derived.Maps.Own
import Derived.Maps.OwnOps
import Derived.Maps.OwnSet
import Derived.Maps.Views
namespace Go.Proofs.Ytpgmfjpjjnpiiaa.LeaseK
open Go.RowKit Go.Maps Go.Proofs.Ytpgmfjpjjnpiiaa.PLeaseWakes Go.Proofs.Ytpgmfjpjjnpiiaa.LeaseA Go.Proofs.Ytpgmfjpjjnpiiaa.LeaseD Go.Proofs.YtpgmfjpjjnpiiaaW.PrintWords Go.Proofs.YtpgmfjpjjnpiiaaW.PrintLast Go.Proofs.YtpgmfjpjjnpiiaaW.PrintMore
set_option linter.unusedSimpArgs false
set_option linter.unusedVariables false
attribute [local go_sem high] eqA36
/-- A reply that counts. -/
def good (n e s : Int) (r : S36) : Bool := r.f1 && (r.f2 == e && (r.f3 == s && (decide (0 ≤ r.f0) && decide (r.f0 < n))))
/-- One more among those that were seen. -/
def addI (seen : List Int) (x : Int) : List Int := if x ∈ seen then seen else seen ++ [x]
/-- Those that granted, each once. -/
def seenOf (n e s : Int) (l : List S36) : List Int := l.foldl (fun a r => if good n e s r = true then addI a r.f0 else a) []
theorem seenOf_snoc (n e s : Int) (l : List S36) (p : S36) : seenOf n e s (l ++ [p]) = if good n e s p = true then addI (seenOf n e s l) p.f0 else seenOf n e s l := by
  unfold seenOf
  rw [List.foldl_append]
  rfl
theorem wf_i {x : Int} (h : -9223372036854775808 ≤ x ∧ x ≤ 9223372036854775807) : (Lit.int .i64 x).wf = true := by
  simp [Lit.wf, IntKind.min, IntKind.max, IntKind.signed, IntKind.bits]
  omega
theorem law : Keyed Try.prog 3 := int_keyed Try.underlying3
/-- What the map of Count's holds: its keys are those that were seen; nil: nobody was. -/
inductive MapIs (w : World) (base : Nat) (k : Nat) : Value → List Int → Prop
  | nil_ : MapIs w base k (.map none) []
  | some_ (B : Nat) (D : DataW Unit) (seen : List Int) : base ≤ B → w.ownsMap Try.prog 3 (plainElem Try.prog 3) B k D → Maps.size D = seen.length → (∀ x : Int, Maps.has D (.int .i64 x) = decide (x ∈ seen)) → MapIs w base k (.map (some B)) seen
theorem MapIs.later {w w1 : World} {base k : Nat} {v : Value} {seen : List Int} (h : MapIs w base k v seen) (hb : Below w.heap.size w w1) : MapIs w1 base (k + 1) v seen := by
  cases h with
  | nil_ => exact .nil_
  | some_ B D seen hB ho hs hh => exact .some_ B D seen hB ((ho.kept (row := none) ⟨hb.os, hb.tape, hb.output, hb.size, fun k hk _ => hb.block k hk⟩ (by simp)).mono (Nat.le_succ _)) hs hh
theorem cell_below {w w1 : World} (h : Below w.heap.size w w1) {a : Addr} {v : Value} (hc : w.cell? a = some v) : w1.cell? a = some v := (World.cell?_of_block (h.block _ (World.block_lt_of_cell? w a hc))).trans hc
theorem has_empty (x : Int) : Maps.has (.map [] : DataW Unit) (.int .i64 x) = decide (x ∈ ([] : List Int)) := by simp [Maps.has_eq]
theorem key_i (x : Int) : WideAt.IsKeyLit (.int .i64 x) := by first | trivial | simp [WideAt.IsKeyLit] | exact ⟨⟩
theorem put_is {D : DataW Unit} {seen : List Int} (hT : Maps.Tidy D) (hs : Maps.size D = seen.length) (hh : ∀ x : Int, Maps.has D (.int .i64 x) = decide (x ∈ seen)) (y : Int) (d : DataW Unit) :
    Maps.size (D.put (.int .i64 y) d) = (addI seen y).length ∧ ∀ x : Int, Maps.has (D.put (.int .i64 y) d) (.int .i64 x) = decide (x ∈ addI seen y) := by
  refine ⟨?_, fun x => ?_⟩
  · rw [Maps.size_put hT, hh, hs]
    unfold addI
    by_cases h : y ∈ seen <;> simp [h]
  · by_cases e : x = y
    · subst e
      rw [Maps.has_put_same hT.isMap (key_i x)]
      unfold addI
      split <;> simp_all
    · rw [Maps.has_put_other (by simpa using e), hh]
      unfold addI
      split <;> simp [e]
set_option maxHeartbeats 4000000 in
set_option maxRecDepth 100000 in
theorem count_ok (A : Option Addr) (cap : Nat) (l : List S36) (n e s : Int) (w : World) (hC : Kd.C k36 w A l.length l) (hcap : l.length ≤ cap) (hl : l.length ≤ 1000) (hwf : ∀ p ∈ l, -9223372036854775808 ≤ p.f0 ∧ p.f0 ≤ 9223372036854775807) :
    Calls Try.prog 50 #[.slice A l.length cap, .int .i64 n, .int .i64 e, .int .i64 s] w fun r w' => r = .returned (.int .i64 (seenOf n e s l).length) ∧ Below w.heap.size w w' := by
  have HC := Lib.hid hC
  have HW := Lib.hid hwf
  clear hC hwf
  have hmm := @run_makeMap Try.prog
  have qN : ∀ (w : World), (binOp .eql 89 (.map none) (.map none)).run Try.prog w = .ok (.bool true) w := fun w => run_eql_map_nil w _ _ _ none Try.underlying89
  have qS : ∀ (w : World) (r : Nat), (binOp .eql 89 (.map (some r)) (.map none)).run Try.prog w = .ok (.bool false) w := fun w r => run_eql_map_nil w _ _ _ (some r) Try.underlying89
  go_enter Try.func50, Try.ntmps50
  go_upto_region 3 with (fail)
  go_loopw [9, 15] (fun u9 u15 wr => ∃ (k : Nat) (seen : List Int), u15 = .int .i64 k ∧ k ≤ l.length ∧ Hid (seen = seenOf n e s (l.take k)) ∧ Hid (Below w.heap.size w wr) ∧ Hid (MapIs wr w.heap.size k u9 seen)) (fun _ u15 _ => l.length - (intOf u15).toNat)
  case atStart => exact ⟨0, [], rfl, Nat.zero_le _, Lib.hid (by simp [seenOf]), Lib.hid (Below.refl _ _), Lib.hid .nil_⟩
  obtain ⟨k, seen, rfl, hk, HS, HB, HM⟩ := hrel
  by_cases hlt : k < l.length
  · have hlt' : (k : Int) < l.length := by omega
    obtain ⟨b, off, rfl, hb, hel⟩ := LRead.C_addr HC.out (by decide) (by omega)
    obtain ⟨p, hp⟩ : ∃ p, l[k]? = some p := ⟨_, List.getElem?_eq_getElem hlt⟩
    obtain ⟨c, hc, hK, hcell⟩ := hel k p hp
    obtain rfl := k36_open hK
    have HP := Lib.hid (HW.out p (List.mem_of_getElem? hp))
    have HT : Hid (seenOf n e s (l.take (k + 1)) = if good n e s p = true then addI seen p.f0 else seen) := Lib.hid (by rw [List.take_add_one, hp, HS.out]; exact seenOf_snoc n e s _ p)
    have e0 := cell_below HB.out (hcell 0 _ rfl)
    have e1 := cell_below HB.out (hcell 1 _ rfl)
    have e2 := cell_below HB.out (hcell 2 _ rfl)
    have e3 := cell_below HB.out (hcell 3 _ rfl)
    have e0 : wr.cell? ⟨b, off + k * 4, none⟩ = some (.int .i64 p.f0) := e0
    have e1 : wr.cell? ⟨b, off + k * 4 + 1, none⟩ = some (.bool p.f1) := e1
    have e2 : wr.cell? ⟨b, off + k * 4 + 2, none⟩ = some (.int .i64 p.f2) := e2
    have e3 : wr.cell? ⟨b, off + k * 4 + 3, none⟩ = some (.int .i64 p.f3) := e3
    clear hel hp hK hcell hc
    obtain ⟨x, g, ep, st⟩ := p
    rcases g with _ | _
    · go_wp2
      exact ⟨⟨k + 1, seen, by go_num, by omega, Lib.hid (by rw [HT.out, if_neg (by simp [good])]), Lib.hid (below_step HB.out (by repeat (first | exact Below.refl _ _ | refine below_alloc ?_ _ | refine below_drew1 ?_))), Lib.hid (HM.out.later (by repeat (first | exact Below.refl _ _ | refine below_alloc ?_ _ | refine below_drew1 ?_)))⟩, by simp [intOf]; omega⟩
    by_cases h2 : ep = e
    rotate_left
    · have h2' : (ep == e) = false := by simpa using h2
      go_wp2
      exact ⟨⟨k + 1, seen, by go_num, by omega, Lib.hid (by rw [HT.out, if_neg (by simp [good, h2])]), Lib.hid (below_step HB.out (by repeat (first | exact Below.refl _ _ | refine below_alloc ?_ _ | refine below_drew1 ?_))), Lib.hid (HM.out.later (by repeat (first | exact Below.refl _ _ | refine below_alloc ?_ _ | refine below_drew1 ?_)))⟩, by simp [intOf]; omega⟩
    obtain rfl := h2
    by_cases h3 : st = s
    rotate_left
    · have h3' : (st == s) = false := by simpa using h3
      go_wp2
      exact ⟨⟨k + 1, seen, by go_num, by omega, Lib.hid (by rw [HT.out, if_neg (by simp [good, h3])]), Lib.hid (below_step HB.out (by repeat (first | exact Below.refl _ _ | refine below_alloc ?_ _ | refine below_drew1 ?_))), Lib.hid (HM.out.later (by repeat (first | exact Below.refl _ _ | refine below_alloc ?_ _ | refine below_drew1 ?_)))⟩, by simp [intOf]; omega⟩
    obtain rfl := h3
    by_cases h4 : 0 ≤ x
    rotate_left
    · have h4' : x < 0 := by omega
      go_wp2
      exact ⟨⟨k + 1, seen, by go_num, by omega, Lib.hid (by rw [HT.out, if_neg (by simp [good]; omega)]), Lib.hid (below_step HB.out (by repeat (first | exact Below.refl _ _ | refine below_alloc ?_ _ | refine below_drew1 ?_))), Lib.hid (HM.out.later (by repeat (first | exact Below.refl _ _ | refine below_alloc ?_ _ | refine below_drew1 ?_)))⟩, by simp [intOf]; omega⟩
    by_cases h5 : x < n
    rotate_left
    · have h5' : n ≤ x := by omega
      go_wp2
      exact ⟨⟨k + 1, seen, by go_num, by omega, Lib.hid (by rw [HT.out, if_neg (by simp [good]; omega)]), Lib.hid (below_step HB.out (by repeat (first | exact Below.refl _ _ | refine below_alloc ?_ _ | refine below_drew1 ?_))), Lib.hid (HM.out.later (by repeat (first | exact Below.refl _ _ | refine below_alloc ?_ _ | refine below_drew1 ?_)))⟩, by simp [intOf]; omega⟩
    have HG : Hid (good n ep st ⟨x, true, ep, st⟩ = true) := Lib.hid (by simp [good, h4, h5])
    have hkey : keyOf Try.prog 3 (.int .i64 x) = some (.int .i64 x) := keyOf_int_mk Try.underlying3 (wf_i HP.out)
    have hwk : (Lit.int .i64 (k : Int)).wf = true := wf_i (by omega)
    cases HM.out with
    | nil_ =>
      have ho2 : ∀ a b : Obj, (((wr.alloc a).alloc b).alloc (.map #[] 0)).ownsMap Try.prog 3 (plainElem (H := Unit) Try.prog 3) (wr.heap.size + 1 + 1) 0 (.map []) := fun a b => by simpa using World.ownsMap_made ((wr.alloc a).alloc b) Try.prog 3 (plainElem (H := Unit) Try.prog 3)
      go_wp2_with (first | (at_mapUpdate; refine wpList_mapUpdate_own _ rfl _ _ _ 89 rfl 3 3 law Try.underlying89 _ (wr.heap.size + 1 + 1) 0 _ rfl (ho2 _ _) (by unfold maxLen; omega) _ _ _ rfl rfl hkey _ [] (plainElem_int Try.underlying3 hwk) ?_; intro w1 hown1 hgrow1))
      have hbl := Below.grown (B := w.heap.size) (a := w) (below_alloc (below_alloc (below_alloc HB.out _) _) _) hgrow1 (by have := HB.out.size; simp; omega) (fun j hj => by cases hj; have := HB.out.size; omega)
      obtain ⟨q1, q2⟩ := put_is Maps.tidy_empty (seen := []) rfl has_empty x (.lit (.int .i64 (k : Int)))
      exact ⟨⟨k + 1, addI [] x, by go_num, by omega, Lib.hid (by rw [HT.out, if_pos HG.out]), Lib.hid hbl, Lib.hid (.some_ _ _ _ (by have := HB.out.size; omega) (hown1.mono (by omega)) q1 q2)⟩, by simp [intOf]; omega⟩
    | some_ B D seen hB ho hs hh =>
      have ho2 := fun (a b : Obj) => (ho.alloc a).alloc b
      go_wp2_with (first | (at_mapUpdate; refine wpList_mapUpdate_own _ rfl _ _ _ 89 rfl 3 3 law Try.underlying89 _ B k _ rfl (ho2 _ _) (by unfold maxLen; omega) _ _ _ rfl rfl hkey _ [] (plainElem_int Try.underlying3 hwk) ?_; intro w1 hown1 hgrow1))
      have hbl := Below.grown (B := w.heap.size) (a := w) (below_alloc (below_alloc HB.out _) _) hgrow1 (by have := HB.out.size; simp; omega) (fun j hj => by cases hj; exact hB)
      obtain ⟨q1, q2⟩ := put_is (ho.tidy law) hs hh x (.lit (.int .i64 (k : Int)))
      exact ⟨⟨k + 1, addI seen x, by go_num, by omega, Lib.hid (by rw [HT.out, if_pos HG.out]), Lib.hid hbl, Lib.hid (.some_ _ _ _ hB hown1 q1 q2)⟩, by simp [intOf]; omega⟩
  · have hlt' : (l.length : Int) ≤ k := by omega
    have hke : Hid (l.take k = l) := Lib.hid (List.take_of_length_le (by omega))
    cases HM.out with
    | nil_ =>
      have hml := Maps.len_nil (w := wr) Try.underlying89
      go_wp2
      go_ret
      exact ⟨by have := HS.out; rw [hke.out] at this; rw [← this]; rfl, HB.out⟩
    | some_ B D seen hB ho hs hh =>
      have hml := ho.len Try.underlying89
      go_wp2
      go_ret
      exact ⟨by have := HS.out; rw [hke.out] at this; rw [← this]; rfl, HB.out⟩

/-- Are they more than half? -/
def wonB (n : Int) (m : Nat) : Bool := decide (0 < n) && decide (n / 2 < (m : Int))
set_option maxHeartbeats 4000000 in
set_option maxRecDepth 100000 in
theorem won_ok (A : Option Addr) (cap : Nat) (l : List S36) (n e s : Int) (w : World) (hC : Kd.C k36 w A l.length l) (hcap : l.length ≤ cap) (hl : l.length ≤ 1000) (hwf : ∀ p ∈ l, -9223372036854775808 ≤ p.f0 ∧ p.f0 ≤ 9223372036854775807) (hn : n ≤ 9223372036854775807) :
    Calls Try.prog 31 #[.slice A l.length cap, .int .i64 n, .int .i64 e, .int .i64 s] w fun r w' => r = .returned (.bool (wonB n (seenOf n e s l).length)) ∧ Below w.heap.size w w' := by
  have HC := Lib.hid hC
  have HW := Lib.hid hwf
  clear hC hwf
  by_cases h0 : 0 < n
  · have h0' : decide (0 < n) = true := by simpa using h0
    go_enter Try.func31, Try.ntmps31
    go_wp2_with (first | ((with_reducible go_at_call 50); go_must (refine (count_ok A cap l n e s _ HC.out hcap hl HW.out).mono ?_; rintro r w' ⟨rfl, hb⟩; have HB := Lib.hid hb; clear hb)))
    go_ret
    exact ⟨by show Ending.returned (.bool _) = _; simp [wonB, h0], HB.out⟩
  · have h0' : decide (0 < n) = false := by simpa using h0
    have h0'' : n ≤ 0 := by omega
    go_enter Try.func31, Try.ntmps31
    go_wp2
    go_ret
    exact ⟨by show Ending.returned (.bool _) = _; rw [show wonB n (seenOf n e s l).length = false from by unfold wonB; rw [show decide (0 < n) = false from decide_eq_false (by omega)]; rfl], Below.refl _ _⟩
end Go.Proofs.Ytpgmfjpjjnpiiaa.LeaseK
