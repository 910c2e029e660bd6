/- PROVED: same, of a tape and the reference's. No condition beyond what each line says. -/
import Derived.Test.YtbccjamcfodeiaaRTape5
import Derived.Test.YtbccjamcfodeiaaLRead
import Derived.Test.YtbccjamcfodeiaaWApart
import Derived.Test.YtbccjamcfodeiaaWKept
import Derived.WalkKit
import Derived.WalkSpells
import Derived.WalkLawsBesides
import Derived.WalkMore
import Derived.Outline
import Derived.Lib.Hide
import Derived.BigQuiet
import Derived.Deep.QuietTactic
import Derived.Deep.RegionHeld3
import Derived.Deep.RegionLaw
import Derived.Deep.LoopGhost
import Derived.Deep.DeepCutAuto
namespace Go.Proofs.Ytbccjamcfodeiaa.TapeG
open Go.RowKit Go.Proofs.Ytbccjamcfodeiaa.PTapePlays Go.Proofs.YtbccjamcfodeiaaW.PrintWords Go.Proofs.YtbccjamcfodeiaaW.PrintLast Go.Proofs.YtbccjamcfodeiaaW.PrintMore
open Go.Proofs.Ytbccjamcfodeiaa.Tape Go.Proofs.Ytbccjamcfodeiaa.Tape2 Go.Proofs.Ytbccjamcfodeiaa.Tape3 Go.Proofs.Ytbccjamcfodeiaa.Tape4 Go.Proofs.Ytbccjamcfodeiaa.Tape5 Go.Proofs.Ytbccjamcfodeiaa.Tape6 Go.Proofs.Ytbccjamcfodeiaa.Tape7 Go.Proofs.Ytbccjamcfodeiaa.Tape8 Go.Proofs.Ytbccjamcfodeiaa.Tape9
open Go.Proofs.Ytbccjamcfodeiaa.TapeW Go.Proofs.Ytbccjamcfodeiaa.TapeF Go.Proofs.Ytbccjamcfodeiaa.TapeP Go.Proofs.Ytbccjamcfodeiaa.TapeP2 Go.Proofs.Ytbccjamcfodeiaa.RTape
open Go.Proofs.Ytbccjamcfodeiaa.RTape2 Go.Proofs.Ytbccjamcfodeiaa.RTape3 Go.Proofs.Ytbccjamcfodeiaa.RTape4 Go.Proofs.Ytbccjamcfodeiaa.RTape5
set_option linter.unusedSimpArgs false
set_option linter.unusedVariables false
theorem Apt.init {base : Nat} {w : World} {l : List Thing} {t : Thing} (h : Apt base w (l ++ [t])) : Apt base w l := by
  have := h.take l.length
  rwa [List.take_left' rfl] at this
theorem last_at {l : List Thing} {t : Thing} : (l ++ [t])[l.length]? = some t := by
  rw [List.getElem?_append_right (Nat.le_refl _)]; simp
theorem Apt.three {base : Nat} {w : World} {ts : List Thing} (h : Apt base w ts) (i j k : Nat) (a b c : Thing) (ha : ts[i]? = some a) (hb : ts[j]? = some b) (hc : ts[k]? = some c) (hij : i ≠ j) (hik : i ≠ k) (hjk : j ≠ k) : Apt base w [a, b, c] := by
  obtain ⟨O, h1, h2, h3⟩ := h
  let σ : Nat → Nat := fun n => if n = 0 then i else if n = 1 then j else k
  refine ⟨fun n x => n < 3 ∧ O (σ n) x, fun m n x hm hn => ?_, fun n x hx => h2 _ x hx.2, fun n t ht => ?_⟩
  · have := h1 _ _ x hm.2 hn.2
    have e1 := hm.1
    have e2 := hn.1
    have s0 : σ 0 = i := rfl
    have s1 : σ 1 = j := rfl
    have s2 : σ 2 = k := rfl
    have hm3 : m = 0 ∨ m = 1 ∨ m = 2 := by omega
    have hn3 : n = 0 ∨ n = 1 ∨ n = 2 := by omega
    rcases hm3 with rfl | rfl | rfl <;> rcases hn3 with rfl | rfl | rfl <;> simp only [s0, s1, s2] at this <;> omega
  · have hn : n < 3 := (List.getElem?_eq_some_iff.1 ht).1
    have hn3 : n = 0 ∨ n = 1 ∨ n = 2 := by omega
    refine t.mono (fun x hx => ⟨hn, hx⟩) ?_
    rcases hn3 with rfl | rfl | rfl
    · injection ht with ht; subst ht; exact h3 i _ ha
    · injection ht with ht; subst ht; exact h3 j _ hb
    · injection ht with ht; subst ht; exact h3 k _ hc
theorem C_low {w w1 : World} {base : Nat} {A : Option Addr} {n : Nat} {l : List Int} (h : Kd.C (Kd.int .u8) w A n l) (hA : ∀ a, A = some a → 0 < n → a.block < base) (hb : Below base w w1) : Kd.C (Kd.int .u8) w1 A n l := by
  refine ⟨h.1, h.2.1, fun hn => ?_⟩
  obtain ⟨ad, e, hc⟩ := h.2.2 hn
  refine ⟨ad, e, fun j p hj => ?_⟩
  obtain ⟨c, h1, h2, h3⟩ := hc j p hj
  exact ⟨c, h1, h2, fun i u hu => (World.cell?_of_block (by rw [add_block]; exact hb.block _ (hA ad e hn))).trans (h3 i u hu)⟩
/-- The state behind a call of Does. -/
def doS (s : TS) (c : S45) : TS := if c.f0 = 0 then (appS s c.f1 c.f3).2 else if c.f0 = 1 then (cutS s c.f1 c.f2).2 else if c.f0 = 2 then (syncS s c.f1).2 else if c.f0 = 4 then { s with f := fuseOf c.f2 } else s
theorem doS_fine {n : Nat} {s : TS} (h : Fine n s) (c : S45) (hc : okC c) (h5 : c.f3.length ≤ 500) : Fine (n + 501) (doS s c) := by
  unfold doS
  split
  · exact (appS_good h c.f1 c.f3 (okC_by hc)).mono (by omega)
  · split
    · exact (cutS_good h c.f1 c.f2).mono (by omega)
    · split
      · exact (syncS_good h c.f1).mono (by omega)
      · split
        · exact (setf_good h _ _ (fuse_rng _ (okC_n hc).2).1 (fuse_rng _ (okC_n hc).2).2).mono (by omega)
        · exact h.mono (by omega)
theorem readS_len {n : Nat} {s : TS} (h : Fine n s) (i : Int) : (readS s i).1.length ≤ 1048576 := by
  unfold readS
  split
  · exact Nat.zero_le _
  · rename_i hi
    have hi := Classical.not_not.1 hi
    split
    · exact Nat.zero_le _
    · exact h.nl i.toNat (by omega)
set_option maxHeartbeats 4000000 in
set_option maxRecDepth 100000 in
theorem same_t (base : Nat) (r r2 n : Nat) (s : TS) (rest : List Thing) (i : Int) (w : World) (h : Apt base w (tape r s :: rtape r2 s :: rest)) (hg : Fine n s) (hn : n ≤ 10000000) (hbw : base ≤ w.heap.size) :
    Calls Try.prog 27 #[.pointer (some ⟨r, 0, none⟩), .pointer (some ⟨r2, 0, none⟩), .int .i64 i] w fun e w' => e = .returned (.bool true) ∧ Apt base w' (tape r s :: rtape r2 s :: rest) ∧ Below w.heap.size w w' := by
  have HB := Lib.hid (Below.refl w.heap.size w)
  have HY1 := Lib.hid h
  have HF := Lib.hid hg
  have hl := readS_len hg i
  obtain ⟨⟨l, k⟩, hx⟩ : ∃ x, readS s i = x := ⟨_, rfl⟩
  rw [hx] at hl
  have hl : l.length ≤ 1048576 := hl
  have HX := Lib.hid hx
  obtain ⟨o, ho⟩ : ∃ x, openS s i = x := ⟨_, rfl⟩
  have HO := Lib.hid ho
  clear h hg hx ho
  go_enter Try.func27, Try.ntmps27
  go_wp2_with (first | ((with_reducible go_at_call 14); (have q_ := HY1; clear q_); go_must (refine (read_z base (tape r s :: rtape r2 s :: rest) 0 r n s i k l _ HY1.out rfl HF.out (Nat.le_trans hbw HB.out.size) HX.out).mono ?_; rintro e w1 ⟨A1, c1, rfl, hy, hb⟩; have HY2 := Lib.hid hy; clear HY1 hy; have hb_ := below_step HB.out hb; clear HB; have HB := Lib.hid hb_; clear hb_ hb)) | ((with_reducible go_at_call 36); (have q_ := HY2; clear q_); go_must (refine (rread_z base ((tape r s :: rtape r2 s :: rest) ++ [row (.slice A1 l.length c1) l]) 1 r2 n s i k l _ HY2.out rfl HF.out hn (Nat.le_trans hbw HB.out.size) HX.out).mono ?_; rintro e w1 ⟨A2, c2, rfl, hy, hb⟩; have HY3 := Lib.hid hy; clear HY2 hy; have hb_ := below_step HB.out hb; clear HB; have HB := Lib.hid hb_; clear hb_ hb)) | ((with_reducible go_at_call 20); (have q_ := HY3; clear q_); go_must (refine (same_y A1 A2 l.length l.length c1 c2 l l _ rfl rfl (reads_at (Apt.init HY3.out) last_at).2 (reads_at (Apt.init HY3.out) last_at).1 (reads_at HY3.out last_at).2 (reads_at HY3.out last_at).1 (by omega)).mono ?_; rintro e w1 ⟨he, hb⟩; rw [decide_eq_true rfl] at he; subst he; have HY4 := Lib.hid (Apt.below HY3.out hb); clear HY3; have hb_ := below_step HB.out hb; clear HB; have HB := Lib.hid hb_; clear hb_ hb)) | ((with_reducible go_at_call 21); (have q_ := HY4; clear q_); go_must (refine (open_z base _ 0 r s i o _ HY4.out rfl HO.out).mono ?_; rintro e w1 ⟨rfl, rfl⟩)) | ((with_reducible go_at_call 37); (have q_ := HY4; clear q_); go_must (refine (ropen_z base _ 1 r2 s i o _ HY4.out rfl HO.out).mono ?_; rintro e w1 ⟨rfl, rfl⟩)))
  go_ret
  exact ⟨rfl, Apt.init (Apt.init HY4.out), HB.out⟩
end Go.Proofs.Ytbccjamcfodeiaa.TapeG
