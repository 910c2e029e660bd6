/- PROVED: lemmas that the row uses (cut copies of my texts and of the printed ones). No condition beyond what each line says. -/
import Derived.Test.YtpgmfjpjjnpiiaaBWAll
import Derived.ProofKit
import Derived.OpenShut
import Derived.ChangeArms
import Derived.Deep.Slices
import Derived.Below
namespace Go.Proofs.Ytpgmfjpjjnpiiaa.LOpen
open Go.ChangeShapes Go.WideShapes Go.ChangeAt Go.RowKit Go.Proofs.YtpgmfjpjjnpiiaaW.PrintWords
/-- Whatever reads as a value of type t has cells of the kind d, of a value that is ok. -/
def Opens {α : Type} (P : Program) (t : TypeId) (d : Kd α) (ok : α → Prop) : Prop :=
  P.cellsOf t = d.sz ∧ ∀ {H : Type} (enc : TypeId × Value → H) (w : World) (base : Nat) (spare : Nat → Bool) (held : Bool) (fuel : Nat) (cs : List Value) (x : DataW H × List MemPlace),
    DataW.trod enc P w base spare held fuel t cs = some x → ∃ a, d.K w a cs ∧ ok a
section
variable {P : Program} {t e : TypeId}
theorem opens_int {k : IntKind} (ht : P.underlying t = some (.int k)) (hc : P.cellsOf t = 1) : Opens P t (Kd.int k) (fun n => (Lit.int k n).wf = true) :=
  ⟨hc, fun _ _ _ _ _ _ _ _ h => by
    obtain ⟨n, rfl, _, hw⟩ := DataW.trod_int ht h
    exact ⟨n, rfl, hw⟩⟩
theorem opens_bool (ht : P.underlying t = some .bool) (hc : P.cellsOf t = 1) : Opens P t Kd.bool (fun _ => True) :=
  ⟨hc, fun _ _ _ _ _ _ _ _ h => by
    obtain ⟨b, rfl, _⟩ := DataW.trod_bool ht h
    exact ⟨b, rfl, trivial⟩⟩
theorem row_of_open {α : Type} {d : Kd α} {ok : α → Prop} (ht : P.underlying t = some (.slice e)) (he : Opens P e d ok)
    {H : Type} {enc : TypeId × Value → H} {w : World} {base : Nat} {spare : Nat → Bool} {held : Bool} {fuel : Nat} {A : Option Addr} {len cap : Nat} {x : DataW H × List MemPlace}
    (h : DataW.trod enc P w base spare held fuel t [.slice A len cap] = some x) :
    ∃ xs : List α, len = xs.length ∧ len ≤ cap ∧ d.C w A xs.length xs ∧ ∀ y ∈ xs, ok y := by
  rcases Go.Deep.open_slice ht h with ⟨hcs, _⟩ | ⟨a, l, c, m, n, D, Pl, hcs, _, hl, hm, hmm, _, hel⟩
  · simp at hcs
    obtain ⟨rfl, rfl, rfl⟩ := hcs
    exact ⟨[], rfl, Nat.le_refl _, ⟨rfl, by simp, fun h => absurd h (by simp)⟩, by simp⟩
  · simp at hcs
    obtain ⟨rfl, rfl, rfl⟩ := hcs
    have hlm : len ≤ m := by
      rw [hmm]
      split
      · exact hl
      · exact Nat.le_refl _
    have key : ∀ i, i < len → ∃ y : α, (∃ cs', w.cells? base (a.add (i * P.cellsOf e)) (P.cellsOf e) = some cs' ∧ d.K w y cs') ∧ ok y := by
      intro i hi
      obtain ⟨cs', h1, h2⟩ := hel i (Nat.lt_of_lt_of_le hi hlm)
      obtain ⟨y, hy, ho⟩ := he.2 _ _ _ _ _ _ _ _ h2
      exact ⟨y, ⟨cs', h1, hy⟩, ho⟩
    rcases Nat.eq_zero_or_pos len with h0 | h0
    · exact ⟨[], by simpa using h0, hl, ⟨rfl, by simp, fun h => absurd h (by simp)⟩, by simp⟩
    · obtain ⟨y0, _, _⟩ := key 0 h0
      haveI : Inhabited α := ⟨y0⟩
      obtain ⟨f, hf⟩ := Go.Deep.choose_lt key
      refine ⟨(List.range len).map f, by simp, hl, ⟨by simp, ?_, fun _ => ⟨a, rfl, fun j p hj => ?_⟩⟩, ?_⟩
      · have : maxLen = 9223372036854775807 := rfl
        simp
        omega
      · have hjl : j < len := by
          have := (List.getElem?_eq_some_iff.1 hj).1
          simpa using this
        have hp : f j = p := by simpa [hjl] using hj
        subst hp
        obtain ⟨⟨cs', h1, h2⟩, _⟩ := hf j hjl
        refine ⟨cs', d.K_len h2, h2, fun i u hu => ?_⟩
        have hi : i < P.cellsOf e := by
          have := (List.getElem?_eq_some_iff.1 hu).1
          rw [d.K_len h2] at this
          rw [he.1]
          exact this
        have e1 := (World.cells?_some h1).2.2 i hi
        rw [Go.Deep.add_add, he.1] at e1
        rw [e1, hu]
      · intro y hy
        simp only [List.mem_map, List.mem_range] at hy
        obtain ⟨j, hj, rfl⟩ := hy
        exact (hf j hj).2
/-- A struct's fields from one on. -/
structure OpensF {α : Type} (P : Program) (fs : List Field) (off : Nat) (d : Kd α) (ok : α → Prop) : Prop where
  out : ∀ {H : Type} (enc : TypeId × Value → H) (w : World) (base : Nat) (spare : Nat → Bool) (held : Bool) (n : Nat) (cs : List Value), cs.length = off + d.sz →
    (∀ f ∈ fs, ∃ y, DataW.trod enc P w base spare held n f.type ((cs.drop f.offset).take (P.cellsOf f.type)) = some y) → ∃ a, d.K w a (cs.drop off) ∧ ok a
theorem opens_last {α : Type} {d : Kd α} {ok : α → Prop} {f : Field} {off : Nat} (ho : f.offset = off) (h : Opens P f.type d ok) : OpensF P [f] off d ok := by
  refine ⟨?_⟩
  intro H enc w base spare held n cs hl hf
  obtain ⟨y, hy⟩ := hf f (by simp)
  rw [ho, h.1, List.take_of_length_le (by rw [List.length_drop]; omega)] at hy
  exact h.2 _ _ _ _ _ _ _ _ hy
theorem opens_cons {α β : Type} {d0 : Kd α} {d : Kd β} {ok0 : α → Prop} {ok : β → Prop} {f : Field} {fs : List Field} {off : Nat} (ho : f.offset = off) (h0 : Opens P f.type d0 ok0) (h : OpensF P fs (off + d0.sz) d ok) :
    OpensF P (f :: fs) off (Kd.pair d0 d) (fun x => ok0 x.1 ∧ ok x.2) := by
  refine ⟨?_⟩
  intro H enc w base spare held n cs hl hf
  have hl' : cs.length = off + (d0.sz + d.sz) := hl
  obtain ⟨y, hy⟩ := hf f (by simp)
  rw [ho, h0.1] at hy
  obtain ⟨a, ka, oa⟩ := h0.2 _ _ _ _ _ _ _ _ hy
  obtain ⟨b, kb, ob⟩ := h.out enc w base spare held n cs (by omega) (fun g hg => hf g (by simp [hg]))
  refine ⟨(a, b), ⟨_, _, (List.take_append_drop d0.sz (cs.drop off)).symm, ka, ?_⟩, oa, ob⟩
  rw [List.drop_drop]
  exact kb
theorem opens_struct {α : Type} {d : Kd α} {ok : α → Prop} {fs : Array Field} (ht : P.underlying t = some (.struct fs)) (hc : P.cellsOf t = d.sz) (h : OpensF P fs.toList 0 d ok) : Opens P t d ok :=
  ⟨hc, fun enc w base spare held fuel cs x hx => by
    obtain ⟨xs, n, _, _, hl, hxl, hf⟩ := DataW.trod_struct ht hx
    have := h.out enc w base spare held n cs (by omega) (fun f hfm => by
      obtain ⟨i, hi, rfl⟩ := List.getElem_of_mem hfm
      have g := hf i fs.toList[i] (by simp)
      have hi' : i < xs.length := by rw [hxl]; simpa using hi
      exact ⟨xs[i], by rw [g, List.getElem?_eq_getElem hi']⟩)
    simpa using this⟩
theorem opens_true {α : Type} {d : Kd α} {ok : α → Prop} (h : Opens P t d ok) : Opens P t d (fun _ => True) :=
  ⟨h.1, fun enc w base spare held fuel cs x hx => by
    obtain ⟨a, k, _⟩ := h.2 _ _ _ _ _ _ _ _ hx
    exact ⟨a, k, trivial⟩⟩
theorem opens_iso {α β : Type} {d : Kd α} {ok : α → Prop} (f : β → α) (g : α → β) (hfg : ∀ a, f (g a) = a) (h : Opens P t d ok) : Opens P t (Kd.iso d f) (fun b => ok (f b)) :=
  ⟨h.1, fun enc w base spare held fuel cs x hx => by
    obtain ⟨a, k, o⟩ := h.2 _ _ _ _ _ _ _ _ hx
    refine ⟨g a, ?_, ?_⟩
    · show d.K w (f (g a)) cs
      rw [hfg]
      exact k
    · show ok (f (g a))
      rw [hfg]
      exact o⟩
end
end Go.Proofs.Ytpgmfjpjjnpiiaa.LOpen
