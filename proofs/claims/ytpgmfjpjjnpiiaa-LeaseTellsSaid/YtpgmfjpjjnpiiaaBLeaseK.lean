/- PROVED: lemmas that the row uses (cut copies of my texts and of the printed ones). No condition beyond what each line says. -/
import Derived.Test.YtpgmfjpjjnpiiaaBLeaseD
import Derived.Test.YtpgmfjpjjnpiiaaBXA
import Derived.WalkKit
import Derived.WalkSpells
import Derived.WalkLawsBesides
import Derived.Outline
import Derived.Lib.Hide
import Derived.Deep.LoopGhost
import Derived.Deep.DeepCutAuto
import Derived.BigQuiet
import Derived.Deep.QuietTactic
import Derived.Deep.RegionHeld3
import Derived.Maps.Own
import Derived.Maps.OwnOps
import Derived.Maps.OwnSet
import Derived.Maps.Views
namespace Go.Proofs.Ytpgmfjpjjnpiiaa.LeaseK
open Go.RowKit Go.Maps Go.Proofs.Ytpgmfjpjjnpiiaa.PLeaseWakes Go.Proofs.Ytpgmfjpjjnpiiaa.LeaseA Go.Proofs.Ytpgmfjpjjnpiiaa.LeaseD Go.Proofs.YtpgmfjpjjnpiiaaW.PrintWords Go.Proofs.YtpgmfjpjjnpiiaaW.PrintLast Go.Proofs.YtpgmfjpjjnpiiaaW.PrintMore
set_option linter.unusedSimpArgs false
set_option linter.unusedVariables false
attribute [local go_sem high] eqA36
/-- A reply that counts. -/
def good (n e s : Int) (r : S36) : Bool := r.f1 && (r.f2 == e && (r.f3 == s && (decide (0 ≤ r.f0) && decide (r.f0 < n))))
/-- One more among those that were seen. -/
def addI (seen : List Int) (x : Int) : List Int := if x ∈ seen then seen else seen ++ [x]
/-- Those that granted, each once. -/
def seenOf (n e s : Int) (l : List S36) : List Int := l.foldl (fun a r => if good n e s r = true then addI a r.f0 else a) []
theorem seenOf_snoc (n e s : Int) (l : List S36) (p : S36) : seenOf n e s (l ++ [p]) = if good n e s p = true then addI (seenOf n e s l) p.f0 else seenOf n e s l := by
  unfold seenOf
  rw [List.foldl_append]
  rfl
theorem len_addI (a : List Int) (x : Int) : (addI a x).length ≤ a.length + 1 := by
  unfold addI
  split <;> simp
theorem len_seen (n e s : Int) (l : List S36) : (seenOf n e s l).length ≤ l.length := by
  have : ∀ (l : List S36) (a : List Int), (l.foldl (fun a r => if good n e s r = true then addI a r.f0 else a) a).length ≤ a.length + l.length := by
    intro l
    induction l with
    | nil => intro a; simp
    | cons p l ih =>
      intro a
      rw [List.foldl_cons]
      refine Nat.le_trans (ih _) ?_
      split
      · have := len_addI a p.f0
        simp only [List.length_cons]
        omega
      · simp only [List.length_cons]
        omega
  have h := this l []
  rw [List.length_nil, Nat.zero_add] at h
  exact h
theorem wf_i {x : Int} (h : -9223372036854775808 ≤ x ∧ x ≤ 9223372036854775807) : (Lit.int .i64 x).wf = true := by
  simp [Lit.wf, IntKind.min, IntKind.max, IntKind.signed, IntKind.bits]
  omega
theorem law : Keyed Try.prog 3 := int_keyed Try.underlying3
/-- What the map of Count's holds: its keys are those that were seen; nil: nobody was. -/
inductive MapIs (w : World) (base : Nat) (k : Nat) : Value → List Int → Prop
  | nil_ : MapIs w base k (.map none) []
  | some_ (B : Nat) (D : DataW Unit) (seen : List Int) : base ≤ B → w.ownsMap Try.prog 3 (plainElem Try.prog 3) B k D → Maps.size D = seen.length → (∀ x : Int, Maps.has D (.int .i64 x) = decide (x ∈ seen)) → MapIs w base k (.map (some B)) seen
theorem MapIs.later {w w1 : World} {base k : Nat} {v : Value} {seen : List Int} (h : MapIs w base k v seen) (hb : Below w.heap.size w w1) : MapIs w1 base (k + 1) v seen := by
  cases h with
  | nil_ => exact .nil_
  | some_ B D seen hB ho hs hh => exact .some_ B D seen hB ((ho.kept (row := none) ⟨hb.os, hb.tape, hb.output, hb.size, fun k hk _ => hb.block k hk⟩ (by simp)).mono (Nat.le_succ _)) hs hh
theorem cell_below {w w1 : World} (h : Below w.heap.size w w1) {a : Addr} {v : Value} (hc : w.cell? a = some v) : w1.cell? a = some v := (World.cell?_of_block (h.block _ (World.block_lt_of_cell? w a hc))).trans hc
theorem has_empty (x : Int) : Maps.has (.map [] : DataW Unit) (.int .i64 x) = decide (x ∈ ([] : List Int)) := by simp [Maps.has_eq]
theorem key_i (x : Int) : WideAt.IsKeyLit (.int .i64 x) := by first | trivial | simp [WideAt.IsKeyLit] | exact ⟨⟩
theorem put_is {D : DataW Unit} {seen : List Int} (hT : Maps.Tidy D) (hs : Maps.size D = seen.length) (hh : ∀ x : Int, Maps.has D (.int .i64 x) = decide (x ∈ seen)) (y : Int) (d : DataW Unit) :
    Maps.size (D.put (.int .i64 y) d) = (addI seen y).length ∧ ∀ x : Int, Maps.has (D.put (.int .i64 y) d) (.int .i64 x) = decide (x ∈ addI seen y) := by
  refine ⟨?_, fun x => ?_⟩
  · rw [Maps.size_put hT, hh, hs]
    unfold addI
    by_cases h : y ∈ seen <;> simp [h]
  · by_cases e : x = y
    · subst e
      rw [Maps.has_put_same hT.isMap (key_i x)]
      unfold addI
      split <;> simp_all
    · rw [Maps.has_put_other (by simpa using e), hh]
      unfold addI
      split <;> simp [e]
set_option maxHeartbeats 4000000 in
set_option maxRecDepth 100000 in
theorem count_ok (A : Option Addr) (cap : Nat) (l : List S36) (n e s : Int) (w : World) (hC : Kd.C k36 w A l.length l) (hcap : l.length ≤ cap) (hl : l.length ≤ 1000) (hwf : ∀ p ∈ l, -9223372036854775808 ≤ p.f0 ∧ p.f0 ≤ 9223372036854775807) :
    Calls Try.prog 50 #[.slice A l.length cap, .int .i64 n, .int .i64 e, .int .i64 s] w fun r w' => r = .returned (.int .i64 (seenOf n e s l).length) ∧ Below w.heap.size w w' := by
  have HC := Lib.hid hC
  have HW := Lib.hid hwf
  clear hC hwf
  have hmm := @run_makeMap Try.prog
  have qN : ∀ (w : World), (binOp .eql 89 (.map none) (.map none)).run Try.prog w = .ok (.bool true) w := fun w => run_eql_map_nil w _ _ _ none Try.underlying89
  have qS : ∀ (w : World) (r : Nat), (binOp .eql 89 (.map (some r)) (.map none)).run Try.prog w = .ok (.bool false) w := fun w r => run_eql_map_nil w _ _ _ (some r) Try.underlying89
  go_enter Try.func50, Try.ntmps50
  go_upto_region 3 with (fail)
  go_loopw [9, 15] (fun u9 u15 wr => ∃ (k : Nat) (seen : List Int), u15 = .int .i64 k ∧ k ≤ l.length ∧ Hid (seen = seenOf n e s (l.take k)) ∧ Hid (Below w.heap.size w wr) ∧ Hid (MapIs wr w.heap.size k u9 seen)) (fun _ u15 _ => l.length - (intOf u15).toNat)
  case atStart => exact ⟨0, [], rfl, Nat.zero_le _, Lib.hid (by simp [seenOf]), Lib.hid (Below.refl _ _), Lib.hid .nil_⟩
  obtain ⟨k, seen, rfl, hk, HS, HB, HM⟩ := hrel
  by_cases hlt : k < l.length
  · have hlt' : (k : Int) < l.length := by omega
    obtain ⟨b, off, rfl, hb, hel⟩ := LRead.C_addr HC.out (by decide) (by omega)
    obtain ⟨p, hp⟩ : ∃ p, l[k]? = some p := ⟨_, List.getElem?_eq_getElem hlt⟩
    obtain ⟨c, hc, hK, hcell⟩ := hel k p hp
    obtain rfl := k36_open hK
    have HP := Lib.hid (HW.out p (List.mem_of_getElem? hp))
    have HT : Hid (seenOf n e s (l.take (k + 1)) = if good n e s p = true then addI seen p.f0 else seen) := Lib.hid (by rw [List.take_add_one, hp, HS.out]; exact seenOf_snoc n e s _ p)
    have e0 := cell_below HB.out (hcell 0 _ rfl)
    have e1 := cell_below HB.out (hcell 1 _ rfl)
    have e2 := cell_below HB.out (hcell 2 _ rfl)
    have e3 := cell_below HB.out (hcell 3 _ rfl)
    have e0 : wr.cell? ⟨b, off + k * 4, none⟩ = some (.int .i64 p.f0) := e0
    have e1 : wr.cell? ⟨b, off + k * 4 + 1, none⟩ = some (.bool p.f1) := e1
    have e2 : wr.cell? ⟨b, off + k * 4 + 2, none⟩ = some (.int .i64 p.f2) := e2
    have e3 : wr.cell? ⟨b, off + k * 4 + 3, none⟩ = some (.int .i64 p.f3) := e3
    clear hel hp hK hcell hc
    obtain ⟨x, g, ep, st⟩ := p
    rcases g with _ | _
    · go_wp2
      exact ⟨⟨k + 1, seen, by go_num, by omega, Lib.hid (by rw [HT.out, if_neg (by simp [good])]), Lib.hid (below_step HB.out (by repeat (first | exact Below.refl _ _ | refine below_alloc ?_ _ | refine below_drew1 ?_))), Lib.hid (HM.out.later (by repeat (first | exact Below.refl _ _ | refine below_alloc ?_ _ | refine below_drew1 ?_)))⟩, by simp [intOf]; omega⟩
    by_cases h2 : ep = e
    rotate_left
    · have h2' : (ep == e) = false := by simpa using h2
      go_wp2
      exact ⟨⟨k + 1, seen, by go_num, by omega, Lib.hid (by rw [HT.out, if_neg (by simp [good, h2])]), Lib.hid (below_step HB.out (by repeat (first | exact Below.refl _ _ | refine below_alloc ?_ _ | refine below_drew1 ?_))), Lib.hid (HM.out.later (by repeat (first | exact Below.refl _ _ | refine below_alloc ?_ _ | refine below_drew1 ?_)))⟩, by simp [intOf]; omega⟩
    obtain rfl := h2
    by_cases h3 : st = s
    rotate_left
    · have h3' : (st == s) = false := by simpa using h3
      go_wp2
      exact ⟨⟨k + 1, seen, by go_num, by omega, Lib.hid (by rw [HT.out, if_neg (by simp [good, h3])]), Lib.hid (below_step HB.out (by repeat (first | exact Below.refl _ _ | refine below_alloc ?_ _ | refine below_drew1 ?_))), Lib.hid (HM.out.later (by repeat (first | exact Below.refl _ _ | refine below_alloc ?_ _ | refine below_drew1 ?_)))⟩, by simp [intOf]; omega⟩
    obtain rfl := h3
    by_cases h4 : 0 ≤ x
    rotate_left
    · have h4' : x < 0 := by omega
      go_wp2
      exact ⟨⟨k + 1, seen, by go_num, by omega, Lib.hid (by rw [HT.out, if_neg (by simp [good]; omega)]), Lib.hid (below_step HB.out (by repeat (first | exact Below.refl _ _ | refine below_alloc ?_ _ | refine below_drew1 ?_))), Lib.hid (HM.out.later (by repeat (first | exact Below.refl _ _ | refine below_alloc ?_ _ | refine below_drew1 ?_)))⟩, by simp [intOf]; omega⟩
    by_cases h5 : x < n
    rotate_left
    · have h5' : n ≤ x := by omega
      go_wp2
      exact ⟨⟨k + 1, seen, by go_num, by omega, Lib.hid (by rw [HT.out, if_neg (by simp [good]; omega)]), Lib.hid (below_step HB.out (by repeat (first | exact Below.refl _ _ | refine below_alloc ?_ _ | refine below_drew1 ?_))), Lib.hid (HM.out.later (by repeat (first | exact Below.refl _ _ | refine below_alloc ?_ _ | refine below_drew1 ?_)))⟩, by simp [intOf]; omega⟩
    have HG : Hid (good n ep st ⟨x, true, ep, st⟩ = true) := Lib.hid (by simp [good, h4, h5])
    have hkey : keyOf Try.prog 3 (.int .i64 x) = some (.int .i64 x) := keyOf_int_mk Try.underlying3 (wf_i HP.out)
    have hwk : (Lit.int .i64 (k : Int)).wf = true := wf_i (by omega)
    cases HM.out with
    | nil_ =>
      have ho2 : ∀ a b : Obj, (((wr.alloc a).alloc b).alloc (.map #[] 0)).ownsMap Try.prog 3 (plainElem (H := Unit) Try.prog 3) (wr.heap.size + 1 + 1) 0 (.map []) := fun a b => by simpa using World.ownsMap_made ((wr.alloc a).alloc b) Try.prog 3 (plainElem (H := Unit) Try.prog 3)
      go_wp2_with (first | (at_mapUpdate; refine wpList_mapUpdate_own _ rfl _ _ _ 89 rfl 3 3 law Try.underlying89 _ (wr.heap.size + 1 + 1) 0 _ rfl (ho2 _ _) (by unfold maxLen; omega) _ _ _ rfl rfl hkey _ [] (plainElem_int Try.underlying3 hwk) ?_; intro w1 hown1 hgrow1))
      have hbl := Below.grown (B := w.heap.size) (a := w) (below_alloc (below_alloc (below_alloc HB.out _) _) _) hgrow1 (by have := HB.out.size; simp; omega) (fun j hj => by cases hj; have := HB.out.size; omega)
      obtain ⟨q1, q2⟩ := put_is Maps.tidy_empty (seen := []) rfl has_empty x (.lit (.int .i64 (k : Int)))
      exact ⟨⟨k + 1, addI [] x, by go_num, by omega, Lib.hid (by rw [HT.out, if_pos HG.out]), Lib.hid hbl, Lib.hid (.some_ _ _ _ (by have := HB.out.size; omega) (hown1.mono (by omega)) q1 q2)⟩, by simp [intOf]; omega⟩
    | some_ B D seen hB ho hs hh =>
      have ho2 := fun (a b : Obj) => (ho.alloc a).alloc b
      go_wp2_with (first | (at_mapUpdate; refine wpList_mapUpdate_own _ rfl _ _ _ 89 rfl 3 3 law Try.underlying89 _ B k _ rfl (ho2 _ _) (by unfold maxLen; omega) _ _ _ rfl rfl hkey _ [] (plainElem_int Try.underlying3 hwk) ?_; intro w1 hown1 hgrow1))
      have hbl := Below.grown (B := w.heap.size) (a := w) (below_alloc (below_alloc HB.out _) _) hgrow1 (by have := HB.out.size; simp; omega) (fun j hj => by cases hj; exact hB)
      obtain ⟨q1, q2⟩ := put_is (ho.tidy law) hs hh x (.lit (.int .i64 (k : Int)))
      exact ⟨⟨k + 1, addI seen x, by go_num, by omega, Lib.hid (by rw [HT.out, if_pos HG.out]), Lib.hid hbl, Lib.hid (.some_ _ _ _ hB hown1 q1 q2)⟩, by simp [intOf]; omega⟩
  · have hlt' : (l.length : Int) ≤ k := by omega
    have hke : Hid (l.take k = l) := Lib.hid (List.take_of_length_le (by omega))
    cases HM.out with
    | nil_ =>
      have hml := Maps.len_nil (w := wr) Try.underlying89
      go_wp2
      go_ret
      exact ⟨by have := HS.out; rw [hke.out] at this; rw [← this]; rfl, HB.out⟩
    | some_ B D seen hB ho hs hh =>
      have hml := ho.len Try.underlying89
      go_wp2
      go_ret
      exact ⟨by have := HS.out; rw [hke.out] at this; rw [← this]; rfl, HB.out⟩

theorem info3 : (Try.prog.info? 3).map (fun i => (i.zero, i.size, i.bytes)) = some (some (.int .i64 0), 1, 8) := by kernel_rfl
/-- A number of a row of one's own. -/
theorem int_at {w : World} {base : Nat} {ok : Nat → Prop} {g c n : Nat} {l : List Int} (h : Kd.R (Kd.int .i64) 3 w base ok (.slice (some ⟨g, 0, none⟩) n c) l) {j : Nat} (hj : j < l.length) : w.cell? ⟨g, j, none⟩ = some (.int .i64 l[j]) := by
  obtain ⟨b, off, he, _, hel⟩ := LRead.C_addr (Kd.R_reads' h).2.2 (by decide) (by omega)
  simp only [Option.some.injEq, Addr.mk.injEq] at he
  obtain ⟨rfl, rfl, _⟩ := he
  obtain ⟨c1, hc1, hK1, hcell1⟩ := hel j (l[j]) (by simp)
  have hK2 : c1 = [.int .i64 l[j]] := hK1
  subst hK2
  have e1 : (0 : Nat) + j * (Kd.int .i64).sz + 0 = j := by show 0 + j * 1 + 0 = j; omega
  have h1 := hcell1 0 _ rfl
  rw [e1] at h1
  exact h1
set_option maxHeartbeats 4000000 in
set_option maxRecDepth 100000 in
theorem ref_ok (A : Option Addr) (cap : Nat) (l : List S36) (n e s : Int) (w : World) (hC : Kd.C k36 w A l.length l) (hcap : l.length ≤ cap) (hl : l.length ≤ 1000) :
    Calls Try.prog 57 #[.slice A l.length cap, .int .i64 n, .int .i64 e, .int .i64 s] w fun r w' => r = .returned (.int .i64 (seenOf n e s l).length) ∧ Below w.heap.size w w' := by
  have HC := Lib.hid hC
  clear hC
  go_enter Try.func57, Try.ntmps57
  go_upto_region 3 with (fail)
  go_loopw [9, 10] (fun u9 u10 wr => ∃ (k : Nat) (seen : List Int) (ao : Option Addr) (co : Nat), u10 = .int .i64 k ∧ k ≤ l.length ∧ u9 = .slice ao seen.length co ∧ Hid (seen = seenOf n e s (l.take k)) ∧ Hid (Below w.heap.size w wr) ∧ Hid (Kd.R (Kd.int .i64) 3 wr w.heap.size (fun _ => True) (.slice ao seen.length co) seen)) (fun _ u10 _ => l.length - (intOf u10).toNat)
  case atStart => exact ⟨0, [], none, 0, rfl, Nat.zero_le _, rfl, Lib.hid (by simp [seenOf]), Lib.hid (Below.refl _ _), Lib.hid (Kd.R_nil _ _ _ _ _)⟩
  obtain ⟨k, seen, ao, co, rfl, hk, rfl, HS, HB, HR⟩ := hrel
  by_cases hlt : k < l.length
  · have hlt' : (k : Int) < l.length := by omega
    obtain ⟨b, off, rfl, hb, hel⟩ := LRead.C_addr HC.out (by decide) (by omega)
    obtain ⟨p, hp⟩ : ∃ p, l[k]? = some p := ⟨_, List.getElem?_eq_getElem hlt⟩
    obtain ⟨c, hc, hK, hcell⟩ := hel k p hp
    obtain rfl := k36_open hK
    have HT : Hid (seenOf n e s (l.take (k + 1)) = if good n e s p = true then addI seen p.f0 else seen) := Lib.hid (by rw [List.take_add_one, hp, HS.out]; exact seenOf_snoc n e s _ p)
    have e0 := cell_below HB.out (hcell 0 _ rfl)
    have e1 := cell_below HB.out (hcell 1 _ rfl)
    have e2 := cell_below HB.out (hcell 2 _ rfl)
    have e3 := cell_below HB.out (hcell 3 _ rfl)
    have e0 : wr.cell? ⟨b, off + k * 4, none⟩ = some (.int .i64 p.f0) := e0
    have e1 : wr.cell? ⟨b, off + k * 4 + 1, none⟩ = some (.bool p.f1) := e1
    have e2 : wr.cell? ⟨b, off + k * 4 + 2, none⟩ = some (.int .i64 p.f2) := e2
    have e3 : wr.cell? ⟨b, off + k * 4 + 3, none⟩ = some (.int .i64 p.f3) := e3
    clear hel hp hK hcell hc
    obtain ⟨x, g, ep, st⟩ := p
    rcases g with _ | _
    · go_wp2
      exact ⟨⟨k + 1, seen, ao, co, by go_num, by omega, rfl, Lib.hid (by rw [HT.out, if_neg (by simp [good])]), Lib.hid (below_step HB.out (by repeat (first | exact Below.refl _ _ | refine below_alloc ?_ _ | refine below_drew1 ?_))), Lib.hid (Kd.R_below HR.out (by repeat (first | exact Below.refl _ _ | refine below_alloc ?_ _ | refine below_drew1 ?_)))⟩, by simp [intOf]; omega⟩
    by_cases h2 : ep = e
    rotate_left
    · have h2' : (ep == e) = false := by simpa using h2
      have h2'' : (ep != e) = true := by simpa using h2
      go_wp2
      exact ⟨⟨k + 1, seen, ao, co, by go_num, by omega, rfl, Lib.hid (by rw [HT.out, if_neg (by simp [good, h2])]), Lib.hid (below_step HB.out (by repeat (first | exact Below.refl _ _ | refine below_alloc ?_ _ | refine below_drew1 ?_))), Lib.hid (Kd.R_below HR.out (by repeat (first | exact Below.refl _ _ | refine below_alloc ?_ _ | refine below_drew1 ?_)))⟩, by simp [intOf]; omega⟩
    obtain rfl := h2
    by_cases h3 : st = s
    rotate_left
    · have h3' : (st == s) = false := by simpa using h3
      have h3'' : (st != s) = true := by simpa using h3
      go_wp2
      exact ⟨⟨k + 1, seen, ao, co, by go_num, by omega, rfl, Lib.hid (by rw [HT.out, if_neg (by simp [good, h3])]), Lib.hid (below_step HB.out (by repeat (first | exact Below.refl _ _ | refine below_alloc ?_ _ | refine below_drew1 ?_))), Lib.hid (Kd.R_below HR.out (by repeat (first | exact Below.refl _ _ | refine below_alloc ?_ _ | refine below_drew1 ?_)))⟩, by simp [intOf]; omega⟩
    obtain rfl := h3
    by_cases h4 : 0 ≤ x
    rotate_left
    · have h4' : x < 0 := by omega
      go_wp2
      exact ⟨⟨k + 1, seen, ao, co, by go_num, by omega, rfl, Lib.hid (by rw [HT.out, if_neg (by simp [good]; omega)]), Lib.hid (below_step HB.out (by repeat (first | exact Below.refl _ _ | refine below_alloc ?_ _ | refine below_drew1 ?_))), Lib.hid (Kd.R_below HR.out (by repeat (first | exact Below.refl _ _ | refine below_alloc ?_ _ | refine below_drew1 ?_)))⟩, by simp [intOf]; omega⟩
    by_cases h5 : x < n
    rotate_left
    · have h5' : n ≤ x := by omega
      go_wp2
      exact ⟨⟨k + 1, seen, ao, co, by go_num, by omega, rfl, Lib.hid (by rw [HT.out, if_neg (by simp [good]; omega)]), Lib.hid (below_step HB.out (by repeat (first | exact Below.refl _ _ | refine below_alloc ?_ _ | refine below_drew1 ?_))), Lib.hid (Kd.R_below HR.out (by repeat (first | exact Below.refl _ _ | refine below_alloc ?_ _ | refine below_drew1 ?_)))⟩, by simp [intOf]; omega⟩
    have HG : Hid (good n ep st ⟨x, true, ep, st⟩ = true) := Lib.hid (by simp [good, h4, h5])
    have hsl : Hid (seen.length ≤ 1000) := Lib.hid (by rw [HS.out]; refine Nat.le_trans (len_seen _ _ _ _) ?_; simp; omega)
    go_upto_region 9 with (fail)
    refine world_gen (P := fun w5 => Below wr.heap.size wr w5 ∧ w5.heap[wr.heap.size]? = some (.cells #[.int .i64 x, .bool true, .int .i64 ep, .int .i64 st] 36 (0, 0))) ⟨below_alloc (Below.refl _ _) _, by first | exact blk_new _ _⟩ (fun w5 h5 => ?_)
    obtain ⟨p1, p2⟩ := h5
    have HB5 := Lib.hid p1
    have HX5 := Lib.hid p2
    have HR5 := Lib.hid (Kd.R_below HR.out p1)
    clear p1 p2 e0 e1 e2 e3
    have hs1 : seen.length ≤ 1000 := hsl.out
    have hx0 : w5.cell? ⟨wr.heap.size, 0, none⟩ = some (.int .i64 x) := (blk_cell HX5.out 0).trans rfl
    go_loopw [12, 13] (fun u12 u13 w6 => ∃ (j m : Nat) (old : Bool), u13 = .int .i64 j ∧ j ≤ seen.length ∧ u12 = .bool old ∧ Hid (old = decide (x ∈ seen.take j)) ∧ w6 = w5.drewN m) (fun _ u13 _ => seen.length - (intOf u13).toNat)
    case atStart => exact ⟨0, 0, false, rfl, Nat.zero_le _, rfl, Lib.hid (by simp), rfl⟩
    obtain ⟨j, m, old, rfl, hj, rfl, HO, rfl⟩ := hrel
    by_cases hjl : j < seen.length
    · have hjl' : (j : Int) < seen.length := by omega
      obtain ⟨g2, c2, hv, _, _, _⟩ := Kd.R_form HR5.out (by omega)
      simp only [Value.slice.injEq] at hv
      obtain ⟨rfl, _, rfl⟩ := hv
      have hq : (w5.drewN m).cell? ⟨g2, j, none⟩ = some (.int .i64 seen[j]) := by rw [World.cell?_drewN]; exact int_at HR5.out hjl
      have hx1 : (w5.drewN m).cell? ⟨wr.heap.size, 0, none⟩ = some (.int .i64 x) := by rw [World.cell?_drewN]; exact hx0
      have hnx : Hid (decide (x ∈ seen.take (j + 1)) = (old || seen[j] == x)) := Lib.hid (by rw [HO.out, List.take_succ_eq_append_getElem hjl, Bool.eq_iff_iff]; simp only [decide_eq_true_eq, Bool.or_eq_true, List.mem_append, List.mem_singleton, beq_iff_eq]; constructor <;> (rintro (h | h); exact .inl h; exact .inr h.symm))
      obtain ⟨y, hy⟩ : ∃ y, y = seen[j] := ⟨_, rfl⟩
      rw [← hy] at hq hnx
      clear hy
      cases old
      · have HQ := Lib.hid (And.intro hq hx1)
        clear hq hx1
        go_upto_region 11 with (fail)
        go_region_held3 (fun w2 => w2.cell? ⟨g2, j, none⟩ = some (.int .i64 y) ∧ w2.cell? ⟨wr.heap.size, 0, none⟩ = some (.int .i64 x)) (first | with_reducible exact HQ.out | (simp only [World.cell?_drew, World.cell?_drewN] at HQ ⊢; with_reducible exact HQ.out)) (fail)
        go_wp2
        exact ⟨⟨j + 1, m + 1, y == x, by go_num, by omega, rfl, Lib.hid (by have := hnx.out; rw [Bool.false_or] at this; exact this.symm), rfl⟩, by simp [intOf]; omega⟩
      · go_upto_region 11 with (fail)
        go_quiet (fail)
        go_wp2
        exact ⟨⟨j + 1, m + nq, true, by go_num, by omega, rfl, Lib.hid (by have := hnx.out; rw [Bool.true_or] at this; exact this.symm), rfl⟩, by simp [intOf]; omega⟩
    · have hjl' : (seen.length : Int) ≤ j := by omega
      have hot : Hid (old = decide (x ∈ seen)) := Lib.hid (by rw [HO.out, List.take_of_length_le (by omega)])
      clear HO
      cases old
      · have hnot : Hid (addI seen x = seen ++ [x]) := Lib.hid (by unfold addI; rw [if_neg (by have := hot.out; simpa using this.symm)])
        go_wp2_with (first | ((with_reducible refine gate_builtin (b := .append) (xs := #[.tmp 68, .tmp 71]) rfl ?_); at_builtin; refine Kd.R_append (Kd.int .i64) (w0 := w) w.heap.size rfl (.tmp 68) (.tmp 71) 90 3 (.int .i64 0) 8 rfl Try.underlying90 info3 rfl (by decide) (by omega) (.slice ao seen.length co) seen x [.int .i64 x] (fun _ => True) (fun _ => False) rfl rfl ?aP (fun _ hk => hk.elim) (fun _ _ => trivial) ?aO ?aB ?aS ?aL ?_; (case aP => exact rfl); (case aO => exact Kd.R_drewN HR5.out m); (case aB => exact pw_below_drewN (below_step HB.out HB5.out) m); (case aS => exact (below_size (pw_below_drewN (below_step HB.out HB5.out) m))); (case aL => omega); intro v7 w7 ho hb7 hg hat; obtain ⟨ao7, co7, rfl⟩ := Kd.R_slice ho; have HR7 := Lib.hid ho; have HB7 := Lib.hid hb7; clear ho hb7 hg hat))
        exact ⟨⟨k + 1, seen ++ [x], ao7, co7, by go_num, by omega, by simp, Lib.hid (by rw [HT.out, if_pos HG.out, hnot.out]), HB7, Lib.hid (by simpa using HR7.out)⟩, by simp [intOf]; omega⟩
      · have hnot : Hid (addI seen x = seen) := Lib.hid (by unfold addI; rw [if_pos (by have := hot.out; simpa using this.symm)])
        go_wp2
        exact ⟨⟨k + 1, seen, ao, co, by go_num, by omega, rfl, Lib.hid (by rw [HT.out, if_pos HG.out, hnot.out]), Lib.hid (pw_below_drewN (below_step HB.out HB5.out) m), Lib.hid (Kd.R_drewN HR5.out m)⟩, by simp [intOf]; omega⟩
  · have hlt' : (l.length : Int) ≤ k := by omega
    have hke : Hid (l.take k = l) := Lib.hid (List.take_of_length_le (by omega))
    go_wp2
    go_ret
    exact ⟨by have := HS.out; rw [hke.out] at this; rw [← this]; rfl, HB.out⟩

/-- Are they more than half? -/
def wonB (n : Int) (m : Nat) : Bool := decide (0 < n) && decide (n / 2 < (m : Int))
set_option maxHeartbeats 4000000 in
set_option maxRecDepth 100000 in
theorem won_ok (A : Option Addr) (cap : Nat) (l : List S36) (n e s : Int) (w : World) (hC : Kd.C k36 w A l.length l) (hcap : l.length ≤ cap) (hl : l.length ≤ 1000) (hwf : ∀ p ∈ l, -9223372036854775808 ≤ p.f0 ∧ p.f0 ≤ 9223372036854775807) (hn : n ≤ 9223372036854775807) :
    Calls Try.prog 31 #[.slice A l.length cap, .int .i64 n, .int .i64 e, .int .i64 s] w fun r w' => r = .returned (.bool (wonB n (seenOf n e s l).length)) ∧ Below w.heap.size w w' := by
  have HC := Lib.hid hC
  have HW := Lib.hid hwf
  clear hC hwf
  by_cases h0 : 0 < n
  · have h0' : decide (0 < n) = true := by simpa using h0
    go_enter Try.func31, Try.ntmps31
    go_wp2_with (first | ((with_reducible go_at_call 50); go_must (refine (count_ok A cap l n e s _ HC.out hcap hl HW.out).mono ?_; rintro r w' ⟨rfl, hb⟩; have HB := Lib.hid hb; clear hb)))
    go_ret
    exact ⟨by show Ending.returned (.bool _) = _; simp [wonB, h0], HB.out⟩
  · have h0' : decide (0 < n) = false := by simpa using h0
    have h0'' : n ≤ 0 := by omega
    go_enter Try.func31, Try.ntmps31
    go_wp2
    go_ret
    exact ⟨by show Ending.returned (.bool _) = _; rw [show wonB n (seenOf n e s l).length = false from by unfold wonB; rw [show decide (0 < n) = false from decide_eq_false (by omega)]; rfl], Below.refl _ _⟩
set_option maxHeartbeats 4000000 in
set_option maxRecDepth 100000 in
theorem refWon_ok (A : Option Addr) (cap : Nat) (l : List S36) (n e s : Int) (w : World) (hC : Kd.C k36 w A l.length l) (hcap : l.length ≤ cap) (hl : l.length ≤ 1000) (hn : n ≤ 9223372036854775807) :
    Calls Try.prog 47 #[.slice A l.length cap, .int .i64 n, .int .i64 e, .int .i64 s] w fun r w' => r = .returned (.bool (wonB n (seenOf n e s l).length)) ∧ Below w.heap.size w w' := by
  have HC := Lib.hid hC
  clear hC
  by_cases h0 : 0 < n
  · have h0' : decide (1 ≤ n) = true := by simp; omega
    have h0'' : 1 ≤ n := by omega
    go_enter Try.func47, Try.ntmps47
    go_wp2_with (first | ((with_reducible go_at_call 57); go_must (refine (ref_ok A cap l n e s _ HC.out hcap hl).mono ?_; rintro r w' ⟨rfl, hb⟩; have HB := Lib.hid hb; clear hb)))
    go_ret
    exact ⟨by show Ending.returned (.bool _) = _; simp [wonB, h0], HB.out⟩
  · have h0' : decide (1 ≤ n) = false := by simp; omega
    have h0'' : n < 1 := by omega
    go_enter Try.func47, Try.ntmps47
    go_wp2
    go_ret
    exact ⟨by show Ending.returned (.bool _) = _; rw [show wonB n (seenOf n e s l).length = false from by unfold wonB; rw [show decide (0 < n) = false from decide_eq_false (by omega)]; rfl], Below.refl _ _⟩
end Go.Proofs.Ytpgmfjpjjnpiiaa.LeaseK
