/- PROVED: contracts of layer 4's reader. No condition beyond what each line says. -/
import Derived.Test.YtnkaalapjlmmiaaWireW
import Derived.Test.YtnkaalapjlmmiaaWKept
import Derived.Test.YtnkaalapjlmmiaaLRead
import Derived.Test.YtnkaalapjlmmiaaWApart
import Derived.WalkKit
import Derived.WalkSpells
import Derived.WalkLawsBesides
import Derived.WalkMore
import Derived.Outline
import Derived.Lib.Hide
import Derived.BigQuiet
import Derived.Deep.QuietTactic
import Derived.Deep.RegionHeld3
import Derived.Deep.RegionLaw
import Derived.Deep.LoopGhost
import Derived.Deep.DeepCutAuto
namespace Go.Proofs.Ytnkaalapjlmmiaa.WireR
open Go.RowKit Go.Proofs.Ytnkaalapjlmmiaa.PWireWrites Go.Proofs.Ytnkaalapjlmmiaa.WirePure Go.Proofs.YtnkaalapjlmmiaaW.PrintWords Go.Proofs.YtnkaalapjlmmiaaW.PrintLast Go.Proofs.YtnkaalapjlmmiaaW.PrintMore
open Go.Proofs.Ytnkaalapjlmmiaa.WireW (slice_at cell_below num_ok text_ok list_ok info5)
set_option linter.unusedSimpArgs false
set_option linter.unusedVariables false
/-- A reader at block r: its bytes are l (its own, in blocks that are ok), it stands at `at`, it met the error e. -/
def RdIs (base : Nat) (ok : Nat → Prop) (w : World) (r : Nat) (A : Option Addr) (cap : Nat) (l : List Int) (at_ : Nat) (e : Int) : Prop :=
  w.heap[r]? = some (.cells #[.slice A l.length cap, .int .i64 at_, .int .i64 e] 60 (0, 0)) ∧ base ≤ r ∧ at_ ≤ l.length ∧ Kd.R (Kd.int .u8) 5 w base ok (.slice A l.length cap) l
section
variable {base : Nat} {ok : Nat → Prop} {w : World} {r : Nat} {A : Option Addr} {cap : Nat} {l : List Int} {at_ : Nat} {e : Int}
theorem RdIs.c0 (h : RdIs base ok w r A cap l at_ e) : w.cell? ⟨r, 0, none⟩ = some (.slice A l.length cap) := (blk_cell h.1 0).trans rfl
theorem RdIs.c1 (h : RdIs base ok w r A cap l at_ e) : w.cell? ⟨r, 1, none⟩ = some (.int .i64 at_) := (blk_cell h.1 1).trans rfl
theorem RdIs.c2 (h : RdIs base ok w r A cap l at_ e) : w.cell? ⟨r, 2, none⟩ = some (.int .i64 e) := (blk_cell h.1 2).trans rfl
theorem RdIs.f1 (h : RdIs base ok w r A cap l at_ e) : w.frozen? ⟨r, 1, none⟩ = false := blk_frozen h.1 1
theorem RdIs.f2 (h : RdIs base ok w r A cap l at_ e) : w.frozen? ⟨r, 2, none⟩ = false := blk_frozen h.1 2
theorem RdIs.lt (h : RdIs base ok w r A cap l at_ e) : r < w.heap.size := blk_lt h.1
theorem RdIs.cap_ (h : RdIs base ok w r A cap l at_ e) : l.length ≤ cap := (Kd.R_reads' h.2.2.2).2.1
theorem RdIs.C (h : RdIs base ok w r A cap l at_ e) : Kd.C (Kd.int .u8) w A l.length l := (Kd.R_reads' h.2.2.2).2.2
theorem RdIs.form (h : RdIs base ok w r A cap l at_ e) : (A = none ∧ l = [] ∧ cap = 0) ∨ ∃ g, A = some ⟨g, 0, none⟩ := by
  obtain ⟨inner, hin, hv⟩ := Kd.R_own h.2.2.2
  rcases hv with ⟨hv, _⟩ | ⟨g, cap', cur, hv, _⟩
  · simp only [Value.slice.injEq] at hv
    exact .inl ⟨hv.1, List.length_eq_zero_iff.1 hv.2.1, hv.2.2⟩
  · simp only [Value.slice.injEq] at hv
    exact .inr ⟨g, hv.1⟩
theorem RdIs.below {w1 : World} (h : RdIs base ok w r A cap l at_ e) (hb : Below w.heap.size w w1) : RdIs base ok w1 r A cap l at_ e := ⟨blk_below h.1 hb, h.2.1, h.2.2.1, Kd.R_below h.2.2.2 hb⟩
theorem RdIs.drewN (h : RdIs base ok w r A cap l at_ e) (m : Nat) : RdIs base ok (w.drewN m) r A cap l at_ e := ⟨h.1, h.2.1, h.2.2.1, Kd.R_drewN h.2.2.2 m⟩
theorem RdIs.mono {ok' : Nat → Prop} (h : RdIs base ok w r A cap l at_ e) (ho : ∀ k, ok k → ok' k) : RdIs base ok' w r A cap l at_ e := ⟨h.1, h.2.1, h.2.2.1, Kd.R_mono h.2.2.2 ho⟩
theorem RdIs.other {w1 : World} {row : Option Nat} (h : RdIs base ok w r A cap l at_ e) (hg : w.grownBy w1 row) (hr : some r ≠ row) (ho : ∀ k, ok k → some k ≠ row) : RdIs base ok w1 r A cap l at_ e := ⟨blk_grown h.1 hg hr, h.2.1, h.2.2.1, Kd.R_grown h.2.2.2 hg ho⟩
theorem R_keep60 {v : Value} {cells : Array Value} (h : Kd.R (Kd.int .u8) 5 w base ok v l) (hb : w.heap[r]? = some (.cells cells 60 (0, 0))) (j : Nat) (u : Value) : Kd.R (Kd.int .u8) 5 (w.setCell ⟨r, j, none⟩ u) base ok v l :=
  Kd.R_mono (Kd.R_far (p := ⟨r, j, none⟩) (Kd.R_types h hb (by decide)) (fun _ hk => hk.2) u) (fun _ hk => hk.1)
theorem RdIs.set1 (h : RdIs base ok w r A cap l at_ e) (at' : Nat) (ha : at' ≤ l.length) : RdIs base ok (w.setCell ⟨r, 1, none⟩ (.int .i64 at')) r A cap l at' e := ⟨blk_put h.1 1 _ rfl, h.2.1, ha, R_keep60 h.2.2.2 h.1 1 _⟩
theorem RdIs.set2 (h : RdIs base ok w r A cap l at_ e) (e' : Int) : RdIs base ok (w.setCell ⟨r, 2, none⟩ (.int .i64 e')) r A cap l at_ e' := ⟨blk_put h.1 2 _ rfl, h.2.1, h.2.2.1, R_keep60 h.2.2.2 h.1 2 _⟩
end
theorem grown_set (w : World) (r j : Nat) (u : Value) : w.grownBy (w.setCell ⟨r, j, none⟩ u) (some r) :=
  ⟨rfl, rfl, rfl, by simp [World.setCell], fun k _ hne => Below.heap_setCell w ⟨r, j, none⟩ u k (fun e => hne (by rw [e]))⟩
theorem grown_drewN (w : World) (m : Nat) (row : Option Nat) : w.grownBy (w.drewN m) row := ⟨rfl, rfl, rfl, Nat.le_refl _, fun _ _ _ => rfl⟩
theorem grown_below {w w1 : World} (h : Below w.heap.size w w1) (row : Option Nat) : w.grownBy w1 row := ⟨h.os, h.tape, h.output, h.size, fun k hk _ => h.block k hk⟩
theorem world_gen {K : World → Prop} {W : World} (P : World → Prop) (h : P W) (hk : ∀ w, P w → K w) : K W := hk W h
theorem RdIs.quiet {base : Nat} {ok : Nat → Prop} {w w' : World} {r : Nat} {A : Option Addr} {cap : Nat} {l : List Int} {at_ : Nat} {e : Int} (h : RdIs base ok w r A cap l at_ e) (hq : ∃ m, w' = w.drewN m) : RdIs base ok w' r A cap l at_ e := by
  obtain ⟨m, rfl⟩ := hq
  exact h.drewN m
theorem grown_quiet {w w' : World} (hq : ∃ m, w' = w.drewN m) (row : Option Nat) : w.grownBy w' row := by
  obtain ⟨m, rfl⟩ := hq
  exact grown_drewN w m row
theorem C_quiet {w w' : World} {A : Option Addr} {n : Nat} {l : List Int} (h : Kd.C (Kd.int .u8) w A n l) (hq : ∃ m, w' = w.drewN m) : Kd.C (Kd.int .u8) w' A n l := by
  obtain ⟨m, rfl⟩ := hq
  exact Kd.C_drewN h m
theorem off_nil (w : World) : Calls Try.prog 39 #[.pointer none] w fun e w' => e = .returned (.bool true) ∧ w = w' := by
  go_enter Try.func39, Try.ntmps39
  go_wp2
  go_ret
  exact ⟨rfl, rfl⟩
theorem off_is (b : Bool) (r : Nat) (e : Int) (w : World) (h : w.cell? ⟨r, 2, none⟩ = some (.int .i64 e)) (hb : (e != 0) = b) : Calls Try.prog 39 #[.pointer (some ⟨r, 0, none⟩)] w fun x w' => x = .returned (.bool b) ∧ w = w' := by
  subst hb
  go_enter Try.func39, Try.ntmps39
  go_wp2
  go_ret
  exact ⟨rfl, rfl⟩
theorem fails_ok (base : Nat) (ok : Nat → Prop) (r : Nat) (A : Option Addr) (cap : Nat) (l : List Int) (at_ was : Nat) (e x : Int) (w : World) (h : RdIs base ok w r A cap l at_ e) (hw : was ≤ l.length) :
    Calls Try.prog 40 #[.pointer (some ⟨r, 0, none⟩), .int .i64 x, .int .i64 was] w fun y w' => y = .returned (.tuple #[]) ∧ RdIs base ok w' r A cap l was x ∧ w.grownBy w' (some r) := by
  have h1 := h.c1
  have h2 := h.c2
  have f1 := h.f1
  have f2 := h.f2
  have hl := h.lt
  have HR := Lib.hid h
  clear h
  go_enter Try.func40, Try.ntmps40
  go_wp2
  go_end0
  exact ⟨rfl, (HR.out.set2 x).set1 was hw, (grown_set _ _ _ _).trans (grown_set _ _ _ _)⟩
theorem C_part {w : World} {A : Option Addr} {l : List Int} {c : Nat} (h : Kd.C (Kd.int .u8) w A l.length l) (hc : l.length ≤ c) (at_ n : Nat) (hn : at_ + n ≤ l.length) (A2 : Option Addr) (hA : A2 = if c = at_ then A else A.map (·.add (at_ * 1))) :
    Kd.C (Kd.int .u8) w A2 n ((l.drop at_).take n) := by
  subst hA
  have h1 := Kd.C_drop (m := at_) (c := c) h (by omega) hc
  have h2 := Kd.C_take (m := n) h1 (by rw [List.length_drop]; omega)
  have e : ((l.drop at_).take n).length = n := by rw [List.length_take, List.length_drop]; omega
  rw [e] at h2
  exact h2
set_option maxHeartbeats 4000000 in
set_option maxRecDepth 100000 in
theorem take_no (r : Nat) (A : Option Addr) (cap n at_ : Nat) (k : Int) (w : World) (h0 : w.cell? ⟨r, 0, none⟩ = some (.slice A n cap)) (h1 : w.cell? ⟨r, 1, none⟩ = some (.int .i64 at_)) (ha : at_ ≤ n) (hn : n ≤ 1000000000) (hk : (n : Int) - at_ < k) :
    Calls Try.prog 41 #[.pointer (some ⟨r, 0, none⟩), .int .u64 k] w fun e w' => e = .returned (.tuple #[.slice none 0 0, .bool false]) ∧ ∃ m, w' = w.drewN m := by
  have ha1 : (at_ : Int) ≤ n := by omega
  have hn1 : (n : Int) ≤ 1000000000 := by omega
  go_enter Try.func41, Try.ntmps41
  go_upto_region 1 with (fail)
  go_quiet (fail)
  go_wp2
  go_ret2
  exact ⟨rfl, _, rfl⟩
/-- n bytes were taken. -/
def Took (base : Nat) (ok : Nat → Prop) (r : Nat) (A : Option Addr) (cap : Nat) (l : List Int) (at_ n : Nat) (e : Int) (w : World) (y : Ending) (w' : World) : Prop :=
  ∃ A2 c2, y = .returned (.tuple #[.slice A2 n c2, .bool true]) ∧ n ≤ c2 ∧ Kd.C (Kd.int .u8) w' A2 n ((l.drop at_).take n) ∧ RdIs base ok w' r A cap l (at_ + n) e ∧ w.grownBy w' (some r)
set_option maxHeartbeats 4000000 in
set_option maxRecDepth 100000 in
theorem take_ok (base : Nat) (ok : Nat → Prop) (r : Nat) (A : Option Addr) (cap : Nat) (l : List Int) (at_ n : Nat) (e : Int) (w : World) (h : RdIs base ok w r A cap l at_ e) (hl : l.length ≤ 1000000000) (hn : at_ + n ≤ l.length) :
    Calls Try.prog 41 #[.pointer (some ⟨r, 0, none⟩), .int .u64 n] w (Took base ok r A cap l at_ n e w) := by
  have h0 := h.c0
  have h1 := h.c1
  have f1 := h.f1
  have hlt := h.lt
  have hca := h.cap_
  have ha1 : (at_ : Int) ≤ l.length := by have := h.2.2.1; omega
  have hl1 : (l.length : Int) ≤ 1000000000 := by omega
  have hn1 : (n : Int) ≤ (l.length : Int) - at_ := by omega
  have hn2 : (at_ : Int) + n ≤ l.length := by omega
  have hc1 : (l.length : Int) ≤ cap := by omega
  have HF := Lib.hid h.form
  have HR := Lib.hid h
  clear h
  rcases HF.out with ⟨rfl, rfl, rfl⟩ | ⟨g, rfl⟩
  · have hz : at_ = 0 := by have := hn; simp at this; omega
    have hz2 : n = 0 := by have := hn; simp at this; omega
    subst hz
    subst hz2
    go_enter Try.func41, Try.ntmps41
    go_upto_region 1 with (fail)
    go_quiet (fail)
    go_upto_region 5 with (fail)
    refine world_gen (P := fun w5 => RdIs base ok w5 r none 0 [] (0 + 0) e ∧ w.grownBy w5 (some r)) ⟨by have q := (HR.out.drewN nq).set1 (0 + 0) hn; simpa using q, (grown_drewN w nq _).trans (grown_set _ _ _ _)⟩ (fun w5 h5 => ?_)
    obtain ⟨p1, p2⟩ := h5
    have HP := Lib.hid p1
    have HG := Lib.hid p2
    have d0 := p1.c0
    have d1 : w5.cell? ⟨r, 1, none⟩ = some (.int .i64 (0)) := p1.c1
    clear p1 p2 h0 h1 f1
    go_quiet (fail)
    go_wp2
    go_ret2
    exact ⟨_, _, rfl, by omega, C_part (HP.out.drewN nq).C HP.out.cap_ _ _ hn _ (by rfl), HP.out.drewN nq, HG.out.trans (grown_drewN _ nq _)⟩
  · rcases Classical.em (cap = at_) with hcc | hcc
    · have hcc' : (cap : Int) = at_ := by omega
      have hz2 : n = 0 := by omega
      subst hz2
      obtain rfl := hcc
      go_enter Try.func41, Try.ntmps41
      go_upto_region 1 with (fail)
      go_quiet (fail)
      go_upto_region 5 with (fail)
      refine world_gen (P := fun w5 => RdIs base ok w5 r (some ⟨g, 0, none⟩) cap l (cap + 0) e ∧ w.grownBy w5 (some r)) ⟨by have q := (HR.out.drewN nq).set1 (cap + 0) hn; simpa using q, (grown_drewN w nq _).trans (grown_set _ _ _ _)⟩ (fun w5 h5 => ?_)
      obtain ⟨p1, p2⟩ := h5
      have HP := Lib.hid p1
      have HG := Lib.hid p2
      have d0 := p1.c0
      have d1 : w5.cell? ⟨r, 1, none⟩ = some (.int .i64 ((cap : Int))) := p1.c1
      clear p1 p2 h0 h1 f1
      go_quiet (fail)
      go_wp2
      go_ret2
      exact ⟨_, _, rfl, by omega, C_part (HP.out.drewN nq).C HP.out.cap_ _ _ hn _ (by rw [if_pos rfl]), HP.out.drewN nq, HG.out.trans (grown_drewN _ nq _)⟩
    · have hck : ¬ cap = at_ := hcc
      go_enter Try.func41, Try.ntmps41
      go_upto_region 1 with (fail)
      go_quiet (fail)
      go_upto_region 5 with (fail)
      refine world_gen (P := fun w5 => RdIs base ok w5 r (some ⟨g, 0, none⟩) cap l (at_ + n) e ∧ w.grownBy w5 (some r)) ⟨by have q := (HR.out.drewN nq).set1 (at_ + n) hn; simpa using q, (grown_drewN w nq _).trans (grown_set _ _ _ _)⟩ (fun w5 h5 => ?_)
      obtain ⟨p1, p2⟩ := h5
      have HP := Lib.hid p1
      have HG := Lib.hid p2
      have d0 := p1.c0
      have d1 : w5.cell? ⟨r, 1, none⟩ = some (.int .i64 ((at_ : Int) + n)) := p1.c1
      clear p1 p2 h0 h1 f1
      go_quiet (fail)
      go_wp2
      go_ret2
      exact ⟨some ⟨g, at_, none⟩, cap - at_, by show Ending.returned (.tuple #[.slice (some ⟨g, at_, none⟩) (at_ + n - at_) (cap - at_), .bool true]) = _; rw [Nat.add_sub_cancel_left], by omega, C_part (HP.out.drewN nq).C HP.out.cap_ _ _ hn _ (by rw [if_neg hck]; simp [Addr.add]), HP.out.drewN nq, HG.out.trans (grown_drewN _ nq _)⟩
theorem byte_of {w : World} {A : Option Addr} {n : Nat} {h : Int} {t : List Int} (hC : Kd.C (Kd.int .u8) w A n (h :: t)) : ∃ b off, A = some ⟨b, off, none⟩ ∧ b < w.heap.size ∧ w.cell? ⟨b, off, none⟩ = some (.int .u8 h) := by
  have hn := hC.1
  subst hn
  obtain ⟨b, off, rfl, hb, hel⟩ := LRead.C_addr hC (by decide) (by simp)
  obtain ⟨c, hc, hK, hcell⟩ := hel 0 h rfl
  have hK2 : c = [.int .u8 h] := hK
  subst hK2
  have := hcell 0 _ rfl
  rw [show off + 0 * (Kd.int .u8).sz + 0 = off from by omega] at this
  exact ⟨b, off, rfl, hb, this⟩
theorem take_one (base : Nat) (ok : Nat → Prop) (r : Nat) (A : Option Addr) (cap : Nat) (l : List Int) (at_ : Nat) (e : Int) (w : World) (h : RdIs base ok w r A cap l at_ e) (hl : l.length ≤ 1000000000) (hn : at_ + 1 ≤ l.length) :
    Calls Try.prog 41 #[.pointer (some ⟨r, 0, none⟩), .int .u64 1] w (Took base ok r A cap l at_ 1 e w) := take_ok base ok r A cap l at_ 1 e w h hl hn
theorem number_at (A : Option Addr) (c n : Nat) (ls : List Int) (w : World) (hn : n = ls.length) (hC : Kd.C (Kd.int .u8) w A n ls) (hc : n ≤ c) (hb : Byt ls) (h8 : ls.length ≤ 8) :
    Calls Try.prog 42 #[.slice A n c] w fun e w' => e = .returned (.tuple #[.int .u64 (num 0 ls), .int .i64 0]) ∧ ∃ m, w' = w.drewN m := by
  subst hn
  refine (bits_Number.calls 20 A c ls (num 0 ls) 0 w hC hc (number_in 20 (by omega) ls hb h8)).mono ?_
  rintro e w' ⟨rfl, h⟩
  exact ⟨rfl, h.out⟩
/-- What is answered, and how the reader stands then. -/
def NumIs (base : Nat) (ok : Nat → Prop) (r : Nat) (A : Option Addr) (cap : Nat) (l : List Int) (at_ : Nat) (x : Int × Nat × Int) (w : World) (y : Ending) (w' : World) : Prop :=
  y = .returned (.int .u64 x.1) ∧ RdIs base ok w' r A cap l (at_ + x.2.1) x.2.2 ∧ w.grownBy w' (some r)
set_option maxHeartbeats 4000000 in
set_option maxRecDepth 100000 in
theorem num_read (base : Nat) (ok : Nat → Prop) (r : Nat) (A : Option Addr) (cap : Nat) (l : List Int) (at_ : Nat) (most : Int) (w : World) (h : RdIs base ok w r A cap l at_ 0) (hl : l.length ≤ 1000000000) (hb : Byt l) (m0 : 0 ≤ most) (m1 : most < 18446744073709551616) :
    Calls Try.prog 22 #[.pointer (some ⟨r, 0, none⟩), .int .u64 most] w (NumIs base ok r A cap l at_ (numD (l.drop at_) most) w) := by
  have h1 := h.c1
  have h2 := h.c2
  have hat := h.2.2.1
  have HR := Lib.hid h
  have HG := Lib.hid (World.grownBy.refl w (some r))
  clear h
  rcases hd : l.drop at_ with _ | ⟨x, t⟩
  · rw [numD_nil]
    have hz : at_ = l.length := by have := congrArg List.length hd; simp at this; omega
    have hat1 : (l.length : Int) - (at_ : Int) < 1 := by omega
    clear hd hz
    go_enter Try.func22, Try.ntmps22
    go_wp2_with (first | ((with_reducible go_at_call 39); go_must (refine (off_is false r 0 _ h2 rfl).mono ?_; rintro e w' ⟨rfl, rfl⟩)) | ((with_reducible go_at_call 41); go_must (refine (take_no r A cap l.length at_ 1 _ HR.out.c0 HR.out.c1 hat hl hat1).mono ?_; rintro e w' ⟨rfl, hq⟩; have hr_ := HR.out.quiet hq; have hg_ := HG.out.trans (grown_quiet hq (some r)); clear HR HG hq; have HR := Lib.hid hr_; have HG := Lib.hid hg_; clear hr_ hg_)))
    refine (fails_ok base ok r A cap l _ at_ 0 40 _ HR.out hat).mono ?_
    rintro e w' ⟨rfl, hr, hg⟩
    have HR2 := Lib.hid hr
    have HG2 := Lib.hid (HG.out.trans hg)
    clear hr hg
    go_wp2
    go_ret
    exact ⟨rfl, HR2.out, HG2.out⟩
  · have hlen : at_ + (t.length + 1) = l.length := by have := congrArg List.length hd; simp at this; omega
    have hx8 : 0 ≤ x ∧ x < 256 := hb x (by rw [← List.take_append_drop at_ l, hd]; simp)
    obtain ⟨m, rfl⟩ := Int.eq_ofNat_of_zero_le hx8.1
    have hbt : Byt t := fun y hy => hb y (by rw [← List.take_append_drop at_ l, hd]; simp [hy])
    have hd1 : (l.drop at_).take 1 = [(m : Int)] := by rw [hd]; rfl
    have hd2 : l.drop (at_ + 1) = t := by rw [← List.drop_drop, hd]; rfl
    have HD1 := Lib.hid hd1
    have HD2 := Lib.hid hd2
    have HBT := Lib.hid hbt
    clear hd hd1 hd2 hbt hb
    have hm256 : (m : Int) < 256 := hx8.2
    clear hx8
    have hl1 : (l.length : Int) ≤ 1000000000 := by omega
    have hat1 : at_ + 1 ≤ l.length := by omega
    rw [numD_cons, Int.toNat_natCast]
    by_cases q1 : 8 < m
    · rw [if_pos (by omega)]
      have q1' : (8 : Int) < m := by omega
      go_enter Try.func22, Try.ntmps22
      have tok1 := True.intro
      go_wp2_with (first | ((with_reducible go_at_call 39); go_must (refine (off_is false r 0 _ h2 rfl).mono ?_; rintro e w' ⟨rfl, rfl⟩)) | ((with_reducible go_at_call 41); have _t1 := tok1; clear _t1; go_must (clear tok1; refine (take_one base ok r A cap l at_ 0 _ HR.out hl hat1).mono ?_; rintro e w' ⟨A2, c2, rfl, hc2, hC2, hr, hg⟩; rw [HD1.out] at hC2; obtain ⟨b2, off2, rfl, hb2, e2⟩ := byte_of hC2; have hg_ := HG.out.trans hg; clear HR HG; have HR := Lib.hid hr; have HG := Lib.hid hg_; clear hr hg hg_ hC2)))
      refine (fails_ok base ok r A cap l _ at_ 0 41 _ HR.out hat).mono ?_
      rintro e w' ⟨rfl, hr, hg⟩
      have HR2 := Lib.hid hr
      have HG2 := Lib.hid (HG.out.trans hg)
      clear hr hg
      go_wp2
      go_ret
      exact ⟨rfl, HR2.out, HG2.out⟩
    have q1' : (m : Int) ≤ 8 := by omega
    rw [if_neg (by omega)]
    by_cases q2 : t.length < m
    · rw [if_pos q2]
      have hatm : (l.length : Int) - ((at_ + 1 : Nat) : Int) < (m : Int) := by omega
      clear hlen q1 q2
      go_enter Try.func22, Try.ntmps22
      have tok1 := True.intro
      go_wp2_with (first | ((with_reducible go_at_call 39); go_must (refine (off_is false r 0 _ h2 rfl).mono ?_; rintro e w' ⟨rfl, rfl⟩)) | ((with_reducible go_at_call 41); have _t1 := tok1; clear _t1; go_must (clear tok1; refine (take_one base ok r A cap l at_ 0 _ HR.out hl hat1).mono ?_; rintro e w' ⟨A2, c2, rfl, hc2, hC2, hr, hg⟩; rw [HD1.out] at hC2; obtain ⟨b2, off2, rfl, hb2, e2⟩ := byte_of hC2; have hg_ := HG.out.trans hg; clear HR HG; have HR := Lib.hid hr; have HG := Lib.hid hg_; clear hr hg hg_ hC2)) | ((with_reducible go_at_call 41); go_must (refine (take_no r A cap l.length (at_ + 1) m _ HR.out.c0 HR.out.c1 hat1 hl hatm).mono ?_; rintro e w' ⟨rfl, hq⟩; have hr_ := HR.out.quiet hq; have hg_ := HG.out.trans (grown_quiet hq (some r)); clear HR HG hq; have HR := Lib.hid hr_; have HG := Lib.hid hg_; clear hr_ hg_)) | ((with_reducible go_at_call 42); go_must (refine (number_at none 0 0 [] _ rfl (Kd.C_nil _ _) (Nat.le_refl _) (by intro x hx; simp at hx) (by simp)).mono ?_; rintro e w' ⟨rfl, hq⟩; have hr_ := HR.out.quiet hq; have hg_ := HG.out.trans (grown_quiet hq (some r)); clear HR HG hq; have HR := Lib.hid hr_; have HG := Lib.hid hg_; clear hr_ hg_)))
      refine (fails_ok base ok r A cap l _ at_ 0 40 _ HR.out hat).mono ?_
      rintro e w' ⟨rfl, hr, hg⟩
      have HR2 := Lib.hid hr
      have HG2 := Lib.hid (HG.out.trans hg)
      clear hr hg
      go_wp2
      go_ret
      exact ⟨rfl, HR2.out, HG2.out⟩
    have hfit : at_ + 1 + m ≤ l.length := by omega
    have hrl : Hid ((t.take m).length = m) := Lib.hid (by rw [List.length_take]; omega)
    have hm8 : (t.take m).length ≤ 8 := by rw [hrl.out]; omega
    have hbr : Hid (Byt (t.take m)) := Lib.hid (fun y hy => HBT.out y (List.mem_of_mem_take hy))
    rw [if_neg q2]
    rcases m with _ | m
    · have hn0 : num 0 (t.take 0) = 0 := rfl
      rw [if_neg (by omega), hn0, if_neg (by omega)]
      clear hn0 q1 q2
      go_enter Try.func22, Try.ntmps22
      have tok1 := True.intro
      go_wp2_with (first | ((with_reducible go_at_call 39); go_must (refine (off_is false r 0 _ h2 rfl).mono ?_; rintro e w' ⟨rfl, rfl⟩)) | ((with_reducible go_at_call 41); have _t1 := tok1; clear _t1; go_must (clear tok1; refine (take_one base ok r A cap l at_ 0 _ HR.out hl hat1).mono ?_; rintro e w' ⟨A2, c2, rfl, hc2, hC2, hr, hg⟩; rw [HD1.out] at hC2; obtain ⟨b2, off2, rfl, hb2, e2⟩ := byte_of hC2; have hg_ := HG.out.trans hg; clear HR HG; have HR := Lib.hid hr; have HG := Lib.hid hg_; clear hr hg hg_ hC2)) | ((with_reducible go_at_call 41); go_must (refine (take_ok base ok r A cap l (at_ + 1) _ 0 _ HR.out hl hfit).mono ?_; rintro e w' ⟨A3, c3, rfl, hc3, hC3, hr, hg⟩; rw [HD2.out] at hC3; have HC3 := Lib.hid hC3; have hg_ := HG.out.trans hg; clear HR HG; have HR := Lib.hid hr; have HG := Lib.hid hg_; clear hr hg hg_ hC3)) | ((with_reducible go_at_call 42); go_must (refine (number_at A3 c3 0 [] _ rfl ⟨rfl, by simp, fun h => absurd h (by simp)⟩ (Nat.zero_le _) (by intro x hx; simp at hx) (by simp)).mono ?_; rw [num_nil]; rintro e w' ⟨rfl, hq⟩; have hr_ := HR.out.quiet hq; have hg_ := HG.out.trans (grown_quiet hq (some r)); clear HR HG hq; have HR := Lib.hid hr_; have HG := Lib.hid hg_; clear hr_ hg_)))
      go_ret
      exact ⟨rfl, HR.out, HG.out⟩
    · obtain ⟨y, ys, hys⟩ : ∃ y ys, t.take (m + 1) = y :: ys := by
        cases t with
        | nil => simp at q2
        | cons y ys => exact ⟨y, ys.take m, rfl⟩
      have hy : t.head? = some y := by
        cases t with
        | nil => simp at hys
        | cons z zs => simp at hys; simp [hys.1]
      rw [hy]
      have HYS := Lib.hid hys
      have hN := num_bd (t.take (m + 1)) hbr.out 0 (by omega)
      have hN0 : 0 ≤ num 0 (t.take (m + 1)) := hN.1
      clear hy hys hN q1 q2
      obtain ⟨N, hNe⟩ : ∃ N, num 0 (t.take (m + 1)) = N := ⟨_, rfl⟩
      rw [hNe]
      rw [hNe] at hN0
      have HNE := Lib.hid hNe
      clear hNe
      by_cases q3 : y = 0
      · subst q3
        rw [if_pos ⟨by omega, rfl⟩]
        have tok1 := True.intro
        go_enter Try.func22, Try.ntmps22
        go_wp2_with (first | ((with_reducible go_at_call 39); go_must (refine (off_is false r 0 _ h2 rfl).mono ?_; rintro e w' ⟨rfl, rfl⟩)) | ((with_reducible go_at_call 41); have _t1 := tok1; clear _t1; go_must (clear tok1; refine (take_one base ok r A cap l at_ 0 _ HR.out hl hat1).mono ?_; rintro e w' ⟨A2, c2, rfl, hc2, hC2, hr, hg⟩; rw [HD1.out] at hC2; obtain ⟨b2, off2, rfl, hb2, e2⟩ := byte_of hC2; have hg_ := HG.out.trans hg; clear HR HG; have HR := Lib.hid hr; have HG := Lib.hid hg_; clear hr hg hg_ hC2)) | ((with_reducible go_at_call 41); go_must (refine (take_ok base ok r A cap l (at_ + 1) _ 0 _ HR.out hl hfit).mono ?_; rintro e w' ⟨A3, c3, rfl, hc3, hC3, hr, hg⟩; rw [HD2.out] at hC3; have HC3 := Lib.hid hC3; have hg_ := HG.out.trans hg; clear HR HG; have HR := Lib.hid hr; have HG := Lib.hid hg_; clear hr hg hg_ hC3)) | ((with_reducible go_at_call 42); go_must (refine (number_at A3 c3 _ _ _ hrl.out.symm HC3.out hc3 hbr.out hm8).mono ?_; rw [HNE.out]; rintro e w' ⟨rfl, hq⟩; have hc_ := C_quiet HC3.out hq; rw [HYS.out] at hc_; obtain ⟨b3, off3, rfl, hb3, e3⟩ := byte_of hc_; clear HC3 hc_; have hr_ := HR.out.quiet hq; have hg_ := HG.out.trans (grown_quiet hq (some r)); clear HR HG hq; have HR := Lib.hid hr_; have HG := Lib.hid hg_; clear hr_ hg_)))
        refine (fails_ok base ok r A cap l _ at_ 0 41 _ HR.out hat).mono ?_
        rintro e w' ⟨rfl, hr, hg⟩
        have HR2 := Lib.hid hr
        have HG2 := Lib.hid (HG.out.trans hg)
        clear hr hg
        go_wp2
        go_ret
        exact ⟨rfl, HR2.out, HG2.out⟩
      have q3' : (y == 0) = false := by simpa using q3
      rw [if_neg (by simp [q3])]
      by_cases q4 : most < N
      · rw [if_pos q4]
        have tok1 := True.intro
        go_enter Try.func22, Try.ntmps22
        go_wp2_with (first | ((with_reducible go_at_call 39); go_must (refine (off_is false r 0 _ h2 rfl).mono ?_; rintro e w' ⟨rfl, rfl⟩)) | ((with_reducible go_at_call 41); have _t1 := tok1; clear _t1; go_must (clear tok1; refine (take_one base ok r A cap l at_ 0 _ HR.out hl hat1).mono ?_; rintro e w' ⟨A2, c2, rfl, hc2, hC2, hr, hg⟩; rw [HD1.out] at hC2; obtain ⟨b2, off2, rfl, hb2, e2⟩ := byte_of hC2; have hg_ := HG.out.trans hg; clear HR HG; have HR := Lib.hid hr; have HG := Lib.hid hg_; clear hr hg hg_ hC2)) | ((with_reducible go_at_call 41); go_must (refine (take_ok base ok r A cap l (at_ + 1) _ 0 _ HR.out hl hfit).mono ?_; rintro e w' ⟨A3, c3, rfl, hc3, hC3, hr, hg⟩; rw [HD2.out] at hC3; have HC3 := Lib.hid hC3; have hg_ := HG.out.trans hg; clear HR HG; have HR := Lib.hid hr; have HG := Lib.hid hg_; clear hr hg hg_ hC3)) | ((with_reducible go_at_call 42); go_must (refine (number_at A3 c3 _ _ _ hrl.out.symm HC3.out hc3 hbr.out hm8).mono ?_; rw [HNE.out]; rintro e w' ⟨rfl, hq⟩; have hc_ := C_quiet HC3.out hq; rw [HYS.out] at hc_; obtain ⟨b3, off3, rfl, hb3, e3⟩ := byte_of hc_; clear HC3 hc_; have hr_ := HR.out.quiet hq; have hg_ := HG.out.trans (grown_quiet hq (some r)); clear HR HG hq; have HR := Lib.hid hr_; have HG := Lib.hid hg_; clear hr_ hg_)))
        refine (fails_ok base ok r A cap l _ at_ 0 42 _ HR.out hat).mono ?_
        rintro e w' ⟨rfl, hr, hg⟩
        have HR2 := Lib.hid hr
        have HG2 := Lib.hid (HG.out.trans hg)
        clear hr hg
        go_wp2
        go_ret
        exact ⟨rfl, HR2.out, HG2.out⟩
      · rw [if_neg q4]
        have q4' : N ≤ most := by omega
        have tok1 := True.intro
        go_enter Try.func22, Try.ntmps22
        go_wp2_with (first | ((with_reducible go_at_call 39); go_must (refine (off_is false r 0 _ h2 rfl).mono ?_; rintro e w' ⟨rfl, rfl⟩)) | ((with_reducible go_at_call 41); have _t1 := tok1; clear _t1; go_must (clear tok1; refine (take_one base ok r A cap l at_ 0 _ HR.out hl hat1).mono ?_; rintro e w' ⟨A2, c2, rfl, hc2, hC2, hr, hg⟩; rw [HD1.out] at hC2; obtain ⟨b2, off2, rfl, hb2, e2⟩ := byte_of hC2; have hg_ := HG.out.trans hg; clear HR HG; have HR := Lib.hid hr; have HG := Lib.hid hg_; clear hr hg hg_ hC2)) | ((with_reducible go_at_call 41); go_must (refine (take_ok base ok r A cap l (at_ + 1) _ 0 _ HR.out hl hfit).mono ?_; rintro e w' ⟨A3, c3, rfl, hc3, hC3, hr, hg⟩; rw [HD2.out] at hC3; have HC3 := Lib.hid hC3; have hg_ := HG.out.trans hg; clear HR HG; have HR := Lib.hid hr; have HG := Lib.hid hg_; clear hr hg hg_ hC3)) | ((with_reducible go_at_call 42); go_must (refine (number_at A3 c3 _ _ _ hrl.out.symm HC3.out hc3 hbr.out hm8).mono ?_; rw [HNE.out]; rintro e w' ⟨rfl, hq⟩; have hc_ := C_quiet HC3.out hq; rw [HYS.out] at hc_; obtain ⟨b3, off3, rfl, hb3, e3⟩ := byte_of hc_; clear HC3 hc_; have hr_ := HR.out.quiet hq; have hg_ := HG.out.trans (grown_quiet hq (some r)); clear HR HG hq; have HR := Lib.hid hr_; have HG := Lib.hid hg_; clear hr_ hg_)))
        go_ret
        exact ⟨rfl, by have := HR.out; rw [show at_ + 1 + (m + 1) = at_ + (m + 1 + 1) by omega] at this; exact this, HG.out⟩
end Go.Proofs.Ytnkaalapjlmmiaa.WireR
