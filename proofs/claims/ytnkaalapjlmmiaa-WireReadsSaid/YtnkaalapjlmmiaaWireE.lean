/- PROVED: contracts of both readers, whatever error was met. No condition beyond what each line says. -/
import Derived.Test.YtnkaalapjlmmiaaWireFD
import Derived.Test.YtnkaalapjlmmiaaWKept
import Derived.Test.YtnkaalapjlmmiaaWApart
import Derived.Stop.BytesEq
import Derived.Test.YtnkaalapjlmmiaaLRead
import Derived.Test.YtnkaalapjlmmiaaWApart
import Derived.WalkKit
import Derived.WalkSpells
import Derived.WalkLawsBesides
import Derived.WalkMore
import Derived.Outline
import Derived.Lib.Hide
import Derived.BigQuiet
import Derived.Deep.QuietTactic
import Derived.Deep.RegionHeld3
import Derived.Deep.RegionLaw
import Derived.Deep.LoopGhost
import Derived.Deep.DeepCutAuto
namespace Go.Proofs.Ytnkaalapjlmmiaa.WireE
open Go.RowKit Go.Proofs.Ytnkaalapjlmmiaa.PWireWrites Go.Proofs.Ytnkaalapjlmmiaa.WirePure Go.Proofs.YtnkaalapjlmmiaaW.PrintWords Go.Proofs.YtnkaalapjlmmiaaW.PrintLast Go.Proofs.YtnkaalapjlmmiaaW.PrintMore
open Go.Proofs.Ytnkaalapjlmmiaa.WireW (slice_at cell_below num_ok text_ok list_ok)
open Go.Proofs.Ytnkaalapjlmmiaa.WireR Go.Proofs.Ytnkaalapjlmmiaa.WireR2 Go.Proofs.Ytnkaalapjlmmiaa.WireR3
open Go.Proofs.Ytnkaalapjlmmiaa.WireT Go.Proofs.Ytnkaalapjlmmiaa.WireD Go.Proofs.Ytnkaalapjlmmiaa.WirePure2
open Go.Proofs.Ytnkaalapjlmmiaa.WireT2 Go.Proofs.Ytnkaalapjlmmiaa.WireF Go.Proofs.Ytnkaalapjlmmiaa.WireFD
set_option linter.unusedSimpArgs false
set_option linter.unusedVariables false
def numE (d : List Int) (most e : Int) : Int × Nat × Int := if e = 0 then numD d most else (0, 0, e)
def textE (d : List Int) (most e : Int) : List Int × Nat × Int := if e = 0 then textD d most else ([], 0, e)
def listE (d : List Int) (most each e : Int) : List (List Int) × Nat × Int := if e = 0 then listD d most each else ([], 0, e)
def byteE (d : List Int) (e : Int) : Int × Nat × Int := if e = 0 then byteD d else (0, 0, e)
def digE (d : List Int) (e : Int) : List Int × Nat × Int := if e = 0 then digestD d else (List.replicate 32 0, 0, e)
section
variable (base : Nat) (ok : Nat → Prop) (w0 : World) (r : Nat) (A : Option Addr) (cap : Nat) (l : List Int) (at_ : Nat) (e : Int) (w : World)
theorem num_any (most : Int) (h : RdIs base ok w r A cap l at_ e) (hl : l.length ≤ 1000000000) (hb : Byt l) (m0 : 0 ≤ most) (m1 : most < 18446744073709551616) :
    Calls Try.prog 22 #[.pointer (some ⟨r, 0, none⟩), .int .u64 most] w (NumIs base ok r A cap l at_ (numE (l.drop at_) most e) w) := by
  unfold numE
  by_cases q : e = 0
  · subst q; rw [if_pos rfl]; exact num_read base ok r A cap l at_ most w h hl hb m0 m1
  · rw [if_neg q]
    refine (num_off r most e w h.c2 (by simpa using q)).mono ?_
    rintro y w' ⟨rfl, rfl⟩
    exact ⟨rfl, h, World.grownBy.refl _ _⟩
theorem fnum_any (most : Int) (h : RfIs w0 w r A cap l e) (hl : l.length ≤ 1000000000) (hb : Byt l) (m0 : 0 ≤ most) (m1 : most < 18446744073709551616) :
    Calls Try.prog 29 #[.pointer (some ⟨r, 0, none⟩), .int .u64 most] w (FNumIs w0 r l (numE l most e) w) := by
  unfold numE
  by_cases q : e = 0
  · subst q; rw [if_pos rfl]; exact fnum_read w0 r A cap l most w h hl hb m0 m1
  · rw [if_neg q]
    refine (fnum_off r most e w h.c1 (by simpa using q)).mono ?_
    rintro y w' ⟨rfl, rfl⟩
    exact ⟨rfl, h.X, World.grownBy.refl _ _⟩
theorem text_any (most : Int) (h : RdIs base ok w r A cap l at_ e) (hl : l.length ≤ 1000000000) (hb : Byt l) (hm : most ≤ 9223372036854775807) :
    Calls Try.prog 25 #[.pointer (some ⟨r, 0, none⟩), .int .i64 most] w (TextIs base ok r A cap l at_ (textE (l.drop at_) most e) w) := by
  unfold textE
  by_cases q : e = 0
  · subst q; rw [if_pos rfl]; exact text_read base ok r A cap l at_ most w h hl hb hm
  · rw [if_neg q]
    refine (text_off r most e w h.c2 (by simpa using q)).mono ?_
    rintro y w' ⟨rfl, rfl⟩
    exact text_nil _ _ _ _ _ _ _ _ _ _ h (World.grownBy.refl _ _)
theorem ftext_off (k : Int) (h : RfIs w0 w r A cap l e) (he : (e != 0) = true) : Calls Try.prog 30 #[.pointer (some ⟨r, 0, none⟩), .int .i64 k] w fun y w' => y = .returned (.slice none 0 0) ∧ w = w' := by
  have h0 := h.c0
  have h1 := h.c1
  clear h
  go_enter Try.func30, Try.ntmps30
  go_wp2_with (first | ((with_reducible go_at_call 29); go_must (refine (fnum_off r _ e _ h1 he).mono ?_; rintro y w' ⟨rfl, rfl⟩)))
  go_ret
  exact ⟨rfl, rfl⟩
theorem flist_off (k m : Int) (h : RfIs w0 w r A cap l e) (he : (e != 0) = true) : Calls Try.prog 31 #[.pointer (some ⟨r, 0, none⟩), .int .i64 k, .int .i64 m] w fun y w' => y = .returned (.slice none 0 0) ∧ w = w' := by
  have h0 := h.c0
  have h1 := h.c1
  clear h
  go_enter Try.func31, Try.ntmps31
  go_wp2_with (first | ((with_reducible go_at_call 29); go_must (refine (fnum_off r _ e _ h1 he).mono ?_; rintro y w' ⟨rfl, rfl⟩)))
  go_ret
  exact ⟨rfl, rfl⟩
theorem ftext_any (most : Int) (h : RfIs w0 w r A cap l e) (hl : l.length ≤ 1000000000) (hb : Byt l) (hm : -9223372036854775808 ≤ most ∧ most ≤ 9223372036854775807) :
    Calls Try.prog 30 #[.pointer (some ⟨r, 0, none⟩), .int .i64 most] w (FTextIs w0 r l (textE l most e) w) := by
  unfold textE
  by_cases q : e = 0
  · subst q; rw [if_pos rfl]; exact ftext_read w0 r A cap l most w h hl hb hm
  · rw [if_neg q]
    refine (ftext_off w0 r A cap l e w most h (by simpa using q)).mono ?_
    rintro y w' ⟨rfl, rfl⟩
    exact ftext_nil _ _ _ _ _ _ h.X (World.grownBy.refl _ _)
theorem list_any (most each : Int) (h : RdIs base ok w r A cap l at_ e) (hl : l.length ≤ 1000000000) (hb : Byt l) (hm : most ≤ 9223372036854775807) (he : each ≤ 9223372036854775807) :
    Calls Try.prog 24 #[.pointer (some ⟨r, 0, none⟩), .int .i64 most, .int .i64 each] w (ListIs base ok r A cap l at_ (listE (l.drop at_) most each e) w) := by
  unfold listE
  by_cases q : e = 0
  · subst q; rw [if_pos rfl]; exact list_read base ok r A cap l at_ most each w h hl hb hm he
  · rw [if_neg q]
    refine (list_off r most each e w h.c2 (by simpa using q)).mono ?_
    rintro y w' ⟨rfl, rfl⟩
    exact ⟨_, rfl, Kd.S_nil _ _ _ _ _, h, World.grownBy.refl _ _⟩
theorem flist_any (most each : Int) (h : RfIs w0 w r A cap l e) (hl : l.length ≤ 1000000000) (hb : Byt l) (hm : -9223372036854775808 ≤ most ∧ most ≤ 9223372036854775807) (he : -9223372036854775808 ≤ each ∧ each ≤ 9223372036854775807) :
    Calls Try.prog 31 #[.pointer (some ⟨r, 0, none⟩), .int .i64 most, .int .i64 each] w (FListIs w0 r l (listE l most each e) w) := by
  unfold listE
  by_cases q : e = 0
  · subst q; rw [if_pos rfl]; exact flist_read w0 r A cap l most each w h hl hb hm he
  · rw [if_neg q]
    refine (flist_off w0 r A cap l e w most each h (by simpa using q)).mono ?_
    rintro y w' ⟨rfl, rfl⟩
    exact flist_nil _ _ _ _ _ _ h.X (World.grownBy.refl _ _)
theorem byte_any (h : RdIs base ok w r A cap l at_ e) (hl : l.length ≤ 1000000000) :
    Calls Try.prog 32 #[.pointer (some ⟨r, 0, none⟩)] w (ByteIs base ok r A cap l at_ (byteE (l.drop at_) e) w) := by
  unfold byteE
  by_cases q : e = 0
  · subst q; rw [if_pos rfl]; exact byte_read base ok r A cap l at_ w h hl
  · rw [if_neg q]
    refine (byte_off r e w h.c2 (by simpa using q)).mono ?_
    rintro y w' ⟨rfl, rfl⟩
    exact ⟨rfl, h, World.grownBy.refl _ _⟩
theorem fbyte_any (h : RfIs w0 w r A cap l e) (hl : l.length ≤ 1000000000) :
    Calls Try.prog 33 #[.pointer (some ⟨r, 0, none⟩)] w (FByteIs w0 r l (byteE l e) w) := by
  unfold byteE
  by_cases q : e = 0
  · subst q; rw [if_pos rfl]; exact fbyte_read w0 r A cap l w h hl
  · rw [if_neg q]
    refine (fbyte_off w0 r e w h.c1 (by simpa using q)).mono ?_
    rintro y w' ⟨rfl, rfl⟩
    exact ⟨rfl, h.X, World.grownBy.refl _ _⟩
theorem dig_any (h : RdIs base ok w r A cap l at_ e) (hl : l.length ≤ 1000000000) :
    Calls Try.prog 34 #[.pointer (some ⟨r, 0, none⟩)] w (DigIs base ok r A cap l at_ (digE (l.drop at_) e) w) := by
  unfold digE
  by_cases q : e = 0
  · subst q; rw [if_pos rfl]; exact digest_read base ok r A cap l at_ w h hl
  · rw [if_neg q]
    refine (digest_off r e w h.c2 (by simpa using q)).mono ?_
    rintro y w' ⟨rfl, hb⟩
    exact ⟨rfl, h.below hb, grown_below hb _⟩
theorem fdig_any (h : RfIs w0 w r A cap l e) (hl : l.length ≤ 1000000000) :
    Calls Try.prog 35 #[.pointer (some ⟨r, 0, none⟩)] w (FDigIs w0 r l (digE l e) w) := by
  unfold digE
  by_cases q : e = 0
  · subst q; rw [if_pos rfl]; exact fdigest_read w0 r A cap l w h hl
  · rw [if_neg q]
    refine (fdigest_off r e w h.c1 (by simpa using q)).mono ?_
    rintro y w' ⟨rfl, hb⟩
    exact ⟨rfl, (h.below hb).X, grown_below hb _⟩
end
theorem size5 : ∀ w : World, (sizeOf 5).run Try.prog w = .ok 1 w := by
  intro w
  rfl
theorem dig_eq (ds : List Int) (hl : ds.length = 32) (hb : Byt ds) (w : World) : (binOp .eql 51 (.agg (c8 ds).toArray) (.agg (c8 ds).toArray)).run Try.prog w = .ok (.bool true) w := by
  have e : c8 ds = (ds.map (fun x => UInt8.ofNat x.toNat)).map Extern.Stop.cell := by
    rw [c8, List.map_map]
    apply List.map_congr_left
    intro x hx
    have h := hb x hx
    show Value.int .u8 x = Value.int .u8 (Int.ofNat (UInt8.ofNat x.toNat).toNat)
    congr 1
    rw [UInt8.toNat_ofNat']
    have : x.toNat % 2 ^ 8 = x.toNat := Nat.mod_eq_of_lt (by omega)
    rw [this]
    simp only [Int.ofNat_eq_natCast]
    omega
  have h2 : (ds.map (fun x => UInt8.ofNat x.toNat)).length = 32 := by rw [List.length_map, hl]
  have := Go.run_eql_bytes (P := Try.prog) w 51 5 32 Try.underlying51 Try.underlying5 size5 _ _ h2 h2
  rw [← e] at this
  simpa using this
theorem digE_in (d : List Int) (e : Int) (hb : Byt d) : (digE d e).1.length = 32 ∧ Byt (digE d e).1 := by
  have hz : (List.replicate 32 (0 : Int)).length = 32 ∧ Byt (List.replicate 32 (0 : Int)) := ⟨by simp, fun x hx => by have := (List.mem_replicate.1 hx).2; omega⟩
  unfold digE
  by_cases q : e = 0
  · rw [if_pos q]
    unfold digestD
    by_cases q2 : d.length < 32
    · rw [if_pos q2]; exact hz
    · rw [if_neg q2]; exact ⟨by rw [List.length_take]; omega, fun x hx => hb x (List.mem_of_mem_take hx)⟩
  · rw [if_neg q]; exact hz
end Go.Proofs.Ytnkaalapjlmmiaa.WireE
