/- PROVED: contracts of the reference's reader. No condition beyond what each line says. -/
import Derived.Test.YtnkaalapjlmmiaaWireT2
import Derived.Test.YtnkaalapjlmmiaaWKept
import Derived.Test.YtnkaalapjlmmiaaWApart
import Derived.Test.YtnkaalapjlmmiaaLRead
import Derived.Test.YtnkaalapjlmmiaaWApart
import Derived.WalkKit
import Derived.WalkSpells
import Derived.WalkLawsBesides
import Derived.WalkMore
import Derived.Outline
import Derived.Lib.Hide
import Derived.BigQuiet
import Derived.Deep.QuietTactic
import Derived.Deep.RegionHeld3
import Derived.Deep.RegionLaw
import Derived.Deep.LoopGhost
import Derived.Deep.DeepCutAuto
namespace Go.Proofs.Ytnkaalapjlmmiaa.WireF
open Go.RowKit Go.Proofs.Ytnkaalapjlmmiaa.PWireWrites Go.Proofs.Ytnkaalapjlmmiaa.WirePure Go.Proofs.YtnkaalapjlmmiaaW.PrintWords Go.Proofs.YtnkaalapjlmmiaaW.PrintLast Go.Proofs.YtnkaalapjlmmiaaW.PrintMore
open Go.Proofs.Ytnkaalapjlmmiaa.WireW (slice_at cell_below num_ok text_ok list_ok)
open Go.Proofs.Ytnkaalapjlmmiaa.WireR Go.Proofs.Ytnkaalapjlmmiaa.WireR2 Go.Proofs.Ytnkaalapjlmmiaa.WireR3
open Go.Proofs.Ytnkaalapjlmmiaa.WireT Go.Proofs.Ytnkaalapjlmmiaa.WireD Go.Proofs.Ytnkaalapjlmmiaa.WirePure2
open Go.Proofs.Ytnkaalapjlmmiaa.WireT2
set_option linter.unusedSimpArgs false
set_option linter.unusedVariables false
/-- The reference's reader at block r: its bytes are d, in memory of w0 that nobody writes; it met the error e. -/
def RfIs (w0 w : World) (r : Nat) (A : Option Addr) (c : Nat) (d : List Int) (e : Int) : Prop :=
  w.heap[r]? = some (.cells #[.slice A d.length c, .int .i64 e] 48 (0, 0)) ∧ w0.heap.size ≤ r ∧ d.length ≤ c ∧ Kd.C (Kd.int .u8) w0 A d.length d ∧ Below w0.heap.size w0 w
/-- So, wherever the bytes lie. -/
def RfX (w0 w : World) (r : Nat) (d : List Int) (e : Int) : Prop := ∃ A c, RfIs w0 w r A c d e
section
variable {w0 w : World} {r : Nat} {A : Option Addr} {c : Nat} {d : List Int} {e : Int}
theorem RfIs.c0 (h : RfIs w0 w r A c d e) : w.cell? ⟨r, 0, none⟩ = some (.slice A d.length c) := (blk_cell h.1 0).trans rfl
theorem RfIs.c1 (h : RfIs w0 w r A c d e) : w.cell? ⟨r, 1, none⟩ = some (.int .i64 e) := (blk_cell h.1 1).trans rfl
theorem RfIs.f0 (h : RfIs w0 w r A c d e) : w.frozen? ⟨r, 0, none⟩ = false := blk_frozen h.1 0
theorem RfIs.f1 (h : RfIs w0 w r A c d e) : w.frozen? ⟨r, 1, none⟩ = false := blk_frozen h.1 1
theorem RfIs.lt (h : RfIs w0 w r A c d e) : r < w.heap.size := blk_lt h.1
theorem RfIs.C (h : RfIs w0 w r A c d e) : Kd.C (Kd.int .u8) w A d.length d := Kd.C_below h.2.2.2.1 h.2.2.2.2
theorem RfIs.X (h : RfIs w0 w r A c d e) : RfX w0 w r d e := ⟨A, c, h⟩
theorem RfIs.other {w1 : World} {row : Option Nat} (h : RfIs w0 w r A c d e) (hg : w.grownBy w1 row) (hr : some r ≠ row) (hb : Below w0.heap.size w0 w1) : RfIs w0 w1 r A c d e := ⟨blk_grown h.1 hg hr, h.2.1, h.2.2.1, h.2.2.2.1, hb⟩
theorem RfIs.below {w1 : World} (h : RfIs w0 w r A c d e) (hb : Below w.heap.size w w1) : RfIs w0 w1 r A c d e := ⟨blk_below h.1 hb, h.2.1, h.2.2.1, h.2.2.2.1, below_step h.2.2.2.2 hb⟩
theorem RfIs.drewN (h : RfIs w0 w r A c d e) (m : Nat) : RfIs w0 (w.drewN m) r A c d e := ⟨h.1, h.2.1, h.2.2.1, h.2.2.2.1, pw_below_drewN h.2.2.2.2 m⟩
theorem RfIs.quiet {w1 : World} (h : RfIs w0 w r A c d e) (hq : ∃ m, w1 = w.drewN m) : RfIs w0 w1 r A c d e := by
  obtain ⟨m, rfl⟩ := hq
  exact h.drewN m
theorem RfIs.set1 (h : RfIs w0 w r A c d e) (e' : Int) : RfIs w0 (w.setCell ⟨r, 1, none⟩ (.int .i64 e')) r A c d e' := ⟨blk_put h.1 1 _ rfl, h.2.1, h.2.2.1, h.2.2.2.1, below_set h.2.2.2.2 h.2.1⟩
theorem RfIs.set0 (h : RfIs w0 w r A c d e) {A' : Option Addr} {c' : Nat} {d' : List Int} (hc : d'.length ≤ c') (hC : Kd.C (Kd.int .u8) w0 A' d'.length d') : RfIs w0 (w.setCell ⟨r, 0, none⟩ (.slice A' d'.length c')) r A' c' d' e := ⟨blk_put h.1 0 _ rfl, h.2.1, hc, hC, below_set h.2.2.2.2 h.2.1⟩
end
/-- The rest of bytes, as a slice from k on. -/
theorem C_rest {w : World} {A : Option Addr} {l : List Int} {c : Nat} (h : Kd.C (Kd.int .u8) w A l.length l) (hc : l.length ≤ c) (k : Nat) (hk : k ≤ l.length) (A2 : Option Addr) (hA : A2 = if c = k then A else A.map (·.add (k * 1))) :
    Kd.C (Kd.int .u8) w A2 (l.drop k).length (l.drop k) := by
  have := C_part h hc k (l.length - k) (by omega) A2 hA
  rw [List.take_of_length_le (by rw [List.length_drop]; exact Nat.le_refl _)] at this
  rw [List.length_drop]
  exact this
/-- A byte is answered. -/
def FByteIs (w0 : World) (r : Nat) (d : List Int) (x : Int × Nat × Int) (w : World) (y : Ending) (w' : World) : Prop :=
  y = .returned (.int .u8 x.1) ∧ RfX w0 w' r (d.drop x.2.1) x.2.2 ∧ w.grownBy w' (some r)
set_option maxHeartbeats 4000000 in
set_option maxRecDepth 100000 in
theorem fbyte_off (w0 : World) (r : Nat) (e : Int) (w : World) (h1 : w.cell? ⟨r, 1, none⟩ = some (.int .i64 e)) (he : (e != 0) = true) : Calls Try.prog 33 #[.pointer (some ⟨r, 0, none⟩)] w fun y w' => y = .returned (.int .u8 0) ∧ w = w' := by
  go_enter Try.func33, Try.ntmps33
  go_wp2
  go_ret
  exact ⟨rfl, rfl⟩
theorem fnum_off (r : Nat) (k e : Int) (w : World) (h1 : w.cell? ⟨r, 1, none⟩ = some (.int .i64 e)) (he : (e != 0) = true) : Calls Try.prog 29 #[.pointer (some ⟨r, 0, none⟩), .int .u64 k] w fun y w' => y = .returned (.int .u64 0) ∧ w = w' := by
  go_enter Try.func29, Try.ntmps29
  go_wp2
  go_ret
  exact ⟨rfl, rfl⟩
set_option maxHeartbeats 4000000 in
set_option maxRecDepth 100000 in
theorem fbyte_read (w0 : World) (r : Nat) (A : Option Addr) (c : Nat) (d : List Int) (w : World) (h : RfIs w0 w r A c d 0) (hl : d.length ≤ 1000000000) :
    Calls Try.prog 33 #[.pointer (some ⟨r, 0, none⟩)] w (FByteIs w0 r d (byteD d) w) := by
  have h0 := h.c0
  have h1 := h.c1
  have f0 := h.f0
  have f1 := h.f1
  have hlt := h.lt
  have hca := h.2.2.1
  have HR := Lib.hid h
  clear h
  rcases d with _ | ⟨x, t⟩
  · go_enter Try.func33, Try.ntmps33
    go_wp2
    go_ret
    exact ⟨rfl, (HR.out.set1 40).X, grown_set _ _ _ _⟩
  · obtain ⟨b, off, rfl, hb, e0⟩ := byte_of HR.out.C
    obtain ⟨n, hn⟩ : ∃ n, n = (x :: t).length := ⟨_, rfl⟩
    rw [← hn] at h0 hl hca
    have hn1 : n = t.length + 1 := hn
    have hnI : (1 : Int) ≤ n := by omega
    have hcaI : (n : Int) ≤ c := by omega
    have hlI : (n : Int) ≤ 1000000000 := by omega
    have HN := Lib.hid hn1
    clear hl hca hn hn1
    by_cases q : c = 1
    · have HC := Lib.hid (C_rest HR.out.2.2.2.1 HR.out.2.2.1 1 (by simp) (some ⟨b, off, none⟩) (by rw [if_pos q]))
      obtain ⟨rfl⟩ : n = 1 := by omega
      subst q
      go_enter Try.func33, Try.ntmps33
      go_wp2
      go_ret
      refine ⟨rfl, ?_, grown_set _ _ _ _⟩
      have ht : t = [] := by have := HN.out; cases t with | nil => rfl | cons _ _ => simp at this
      subst ht
      exact (HR.out.set0 (d' := []) (c' := 0) (by simp) HC.out).X
    · have HC := Lib.hid (C_rest HR.out.2.2.2.1 HR.out.2.2.1 1 (by simp) (some ⟨b, off + 1, none⟩) (by rw [if_neg q]; simp [Addr.add]))
      go_enter Try.func33, Try.ntmps33
      go_wp2
      go_ret
      refine ⟨rfl, ?_, grown_set _ _ _ _⟩
      have hn2 : n - 1 = t.length := by have := HN.out; omega
      rw [hn2]
      exact (HR.out.set0 (d' := t) (c' := c - 1) (by omega) HC.out).X
theorem fnumber_at (A : Option Addr) (c n : Nat) (ls : List Int) (w : World) (hn : n = ls.length) (hC : Kd.C (Kd.int .u8) w A n ls) (hc : n ≤ c) (hb : Byt ls) (h8 : ls.length ≤ 8) :
    Calls Try.prog 44 #[.slice A n c] w fun e w' => e = .returned (.tuple #[.int .u64 (num 0 ls), .int .i64 0]) ∧ ∃ m, w' = w.drewN m := by
  subst hn
  refine (PWireReads.juratref01_Number.calls 20 A c ls (num 0 ls) 0 w hC hc (ref_number_in 20 (by omega) ls hb h8)).mono ?_
  rintro e w' ⟨rfl, h⟩
  exact ⟨rfl, h.out⟩
/-- A number is answered. -/
def FNumIs (w0 : World) (r : Nat) (d : List Int) (x : Int × Nat × Int) (w : World) (y : Ending) (w' : World) : Prop :=
  y = .returned (.int .u64 x.1) ∧ RfX w0 w' r (d.drop x.2.1) x.2.2 ∧ w.grownBy w' (some r)
set_option maxHeartbeats 4000000 in
set_option maxRecDepth 100000 in
theorem fnum_read (w0 : World) (r : Nat) (A : Option Addr) (c : Nat) (d : List Int) (most : Int) (w : World) (h : RfIs w0 w r A c d 0) (hl : d.length ≤ 1000000000) (hby : Byt d) (m0 : 0 ≤ most) (m1 : most < 18446744073709551616) :
    Calls Try.prog 29 #[.pointer (some ⟨r, 0, none⟩), .int .u64 most] w (FNumIs w0 r d (numD d most) w) := by
  have h0 := h.c0
  have h1 := h.c1
  have f0 := h.f0
  have f1 := h.f1
  have hlt := h.lt
  have hca := h.2.2.1
  have HR := Lib.hid h
  clear h
  rcases d with _ | ⟨x, t⟩
  · rw [numD_nil]
    go_enter Try.func29, Try.ntmps29
    go_wp2
    go_ret
    exact ⟨rfl, (HR.out.set1 40).X, grown_set _ _ _ _⟩
  · have hx8 : 0 ≤ x ∧ x < 256 := hby x (by simp)
    obtain ⟨m, rfl⟩ := Int.eq_ofNat_of_zero_le hx8.1
    have hbt : Byt t := fun y hy => hby y (by simp [hy])
    obtain ⟨b, off, rfl, hb, e0⟩ := byte_of HR.out.C
    obtain ⟨n, hn⟩ : ∃ n, n = ((m : Int) :: t).length := ⟨_, rfl⟩
    rw [← hn] at h0 hl hca
    have hn1 : n = t.length + 1 := hn
    have hnI : (1 : Int) ≤ n := by omega
    have hcaI : (n : Int) ≤ c := by omega
    have hlI : (n : Int) ≤ 1000000000 := by omega
    have HN := Lib.hid hn1
    have HNL := Lib.hid hn
    have HBT := Lib.hid hbt
    have hm256 : (m : Int) < 256 := hx8.2
    rw [numD_cons, Int.toNat_natCast]
    clear hl hca hn hby hbt hx8
    by_cases q1 : 8 < m
    · rw [if_pos (by omega)]
      have q1' : (8 : Int) < m := by omega
      clear q1 hn1
      go_enter Try.func29, Try.ntmps29
      go_wp2
      go_ret
      exact ⟨rfl, (HR.out.set1 41).X, grown_set _ _ _ _⟩
    have q1' : (m : Int) ≤ 8 := by omega
    rw [if_neg (by omega)]
    by_cases q2 : t.length < m
    · rw [if_pos q2]
      have q2' : (n : Int) - 1 < m := by omega
      clear q1 q2 hn1
      go_enter Try.func29, Try.ntmps29
      go_wp2
      go_ret
      exact ⟨rfl, (HR.out.set1 40).X, grown_set _ _ _ _⟩
    rw [if_neg q2]
    by_cases qm : m = 0
    · subst qm
      have hn0 : num 0 (t.take 0) = 0 := rfl
      rw [if_neg (by omega), hn0, if_neg (by omega)]
      have e0 : w.cell? ⟨b, off, none⟩ = some (.int .u8 0) := e0
      clear hn0 q1 q2 q1' hn1
      by_cases q : c = 1
      · have HC := Lib.hid (C_rest HR.out.2.2.2.1 HR.out.2.2.1 1 (by simp) (some ⟨b, off, none⟩) (by rw [if_pos q]))
        obtain ⟨rfl⟩ : n = 1 := by omega
        subst q
        go_enter Try.func29, Try.ntmps29
        go_wp2_with (first | ((with_reducible go_at_call 44); go_must (refine (fnumber_at _ _ _ [] _ rfl ⟨rfl, by simp, fun h => absurd h (by simp)⟩ (Nat.zero_le _) (by intro x hx; simp at hx) (by simp)).mono ?_; rw [num_nil]; clear h0 h1 f0 f1 hlt; rintro e w' ⟨rfl, hq⟩; have HR_ := HR.out.quiet hq; have hg_ := grown_quiet hq (some r); have h0 := HR_.c0; rw [← HNL.out] at h0; have h1 := HR_.c1; have f0 := HR_.f0; have f1 := HR_.f1; have hlt := HR_.lt; clear HR; have HR := Lib.hid HR_; have HG := Lib.hid hg_; clear HR_ hg_ hq)))
        go_ret
        refine ⟨rfl, ?_, HG.out.trans (grown_set _ _ _ _)⟩
        have ht : t = [] := by have := HN.out; cases t with | nil => rfl | cons _ _ => simp at this
        subst ht
        exact (HR.out.set0 (d' := []) (c' := 0) (by simp) HC.out).X
      · have HC := Lib.hid (C_rest HR.out.2.2.2.1 HR.out.2.2.1 1 (by simp) (some ⟨b, off + 1, none⟩) (by rw [if_neg q]; simp [Addr.add]))
        go_enter Try.func29, Try.ntmps29
        go_wp2_with (first | ((with_reducible go_at_call 44); go_must (refine (fnumber_at _ _ _ [] _ rfl ⟨rfl, by simp, fun h => absurd h (by simp)⟩ (Nat.zero_le _) (by intro x hx; simp at hx) (by simp)).mono ?_; rw [num_nil]; clear h0 h1 f0 f1 hlt; rintro e w' ⟨rfl, hq⟩; have HR_ := HR.out.quiet hq; have hg_ := grown_quiet hq (some r); have h0 := HR_.c0; rw [← HNL.out] at h0; have h1 := HR_.c1; have f0 := HR_.f0; have f1 := HR_.f1; have hlt := HR_.lt; clear HR; have HR := Lib.hid HR_; have HG := Lib.hid hg_; clear HR_ hg_ hq)))
        go_ret
        refine ⟨rfl, ?_, HG.out.trans (grown_set _ _ _ _)⟩
        have hn2 : n - 1 = t.length := by have := HN.out; omega
        rw [hn2]
        exact (HR.out.set0 (d' := t) (c' := c - 1) (by have := HN.out; omega) HC.out).X
    · have hm1 : (1 : Int) ≤ m := by omega
      obtain ⟨y, ys, rfl⟩ : ∃ y ys, t = y :: ys := by
        cases t with
        | nil => simp at q2; omega
        | cons y ys => exact ⟨y, ys, rfl⟩
      have hfit : (m : Int) + 1 ≤ n := by simp at q2 hn1; omega
      have hq : ¬ c = 1 := by omega
      have hCt : Kd.C (Kd.int .u8) w (some ⟨b, off + 1, none⟩) (y :: ys).length (y :: ys) := Kd.C_below (C_rest HR.out.2.2.2.1 HR.out.2.2.1 1 (by simp) (some ⟨b, off + 1, none⟩) (by rw [if_neg hq]; simp [Addr.add])) HR.out.2.2.2.2
      obtain ⟨b', off', hbe, _, e1⟩ := byte_of hCt
      obtain ⟨rfl, rfl⟩ : b' = b ∧ off' = off + 1 := by simp at hbe; exact ⟨hbe.1.symm, hbe.2.symm⟩
      have hrl : Hid (m = ((y :: ys).take (m)).length) := Lib.hid (by rw [List.length_take]; omega)
      have hm8 : ((y :: ys).take (m)).length ≤ 8 := by rw [← hrl.out]; omega
      have HCT : Hid (Kd.C (Kd.int .u8) w (some ⟨b', off + 1, none⟩) (m) ((y :: ys).take (m))) := Lib.hid (by
        have := Kd.C_take (m := m) hCt (by omega)
        rw [← hrl.out] at this
        exact this)
      have hbr : Hid (Byt ((y :: ys).take (m))) := Lib.hid (fun z hz => HBT.out z (List.mem_of_mem_take hz))
      have HB0 := Lib.hid hbe
      have hyy : (y :: ys).head? = some y := rfl
      rw [hyy]
      have hN := num_bd ((y :: ys).take (m)) hbr.out 0 (by omega)
      have hN0 : 0 ≤ num 0 ((y :: ys).take (m)) := hN.1
      clear hyy hN q1 q2 hbe hCt hn1
      obtain ⟨N, hNe⟩ : ∃ N, num 0 ((y :: ys).take (m)) = N := ⟨_, rfl⟩
      rw [hNe]
      rw [hNe] at hN0
      have HNE := Lib.hid hNe
      clear hNe
      by_cases q3 : y = 0
      · subst q3
        rw [if_pos ⟨by omega, rfl⟩]
        go_enter Try.func29, Try.ntmps29
        go_wp2
        go_ret
        exact ⟨rfl, (HR.out.set1 41).X, grown_set _ _ _ _⟩
      have q3' : (y == 0) = false := by simpa using q3
      rw [if_neg (by simp [q3])]
      by_cases q4 : most < N
      · rw [if_pos q4]
        go_enter Try.func29, Try.ntmps29
        go_wp2_with (first | ((with_reducible go_at_call 44); go_must (refine (fnumber_at _ _ _ ((y :: ys).take m) _ hrl.out HCT.out (by omega) hbr.out hm8).mono ?_; rw [HNE.out]; clear h0 h1 f0 f1 hlt; rintro e w' ⟨rfl, hq⟩; have HR_ := HR.out.quiet hq; have hg_ := grown_quiet hq (some r); have h0 := HR_.c0; rw [← HNL.out] at h0; have h1 := HR_.c1; have f0 := HR_.f0; have f1 := HR_.f1; have hlt := HR_.lt; clear HR; have HR := Lib.hid HR_; have HG := Lib.hid hg_; clear HR_ hg_ hq)))
        go_ret
        exact ⟨rfl, (HR.out.set1 42).X, HG.out.trans (grown_set _ _ _ _)⟩
      · rw [if_neg q4]
        have q4' : N ≤ most := by omega
        by_cases q : c = 1 + m
        · have HC := Lib.hid (C_rest HR.out.2.2.2.1 HR.out.2.2.1 (m + 1) (by have := HN.out; simp at this ⊢; omega) (some ⟨b', off, none⟩) (by rw [if_pos (by omega)]))
          have hnm : n = 1 + m := by omega
          have HNM := Lib.hid hnm
          have HQ := Lib.hid q
          have qI : (c : Int) = 1 + m := by omega
          have nI : (n : Int) = 1 + m := by omega
          clear hnm
          go_enter Try.func29, Try.ntmps29
          go_wp2_with (first | ((with_reducible go_at_call 44); go_must (refine (fnumber_at _ _ _ ((y :: ys).take m) _ hrl.out HCT.out (by omega) hbr.out hm8).mono ?_; rw [HNE.out]; clear h0 h1 f0 f1 hlt; rintro e w' ⟨rfl, hq⟩; have HR_ := HR.out.quiet hq; have hg_ := grown_quiet hq (some r); have h0 := HR_.c0; rw [← HNL.out] at h0; have h1 := HR_.c1; have f0 := HR_.f0; have f1 := HR_.f1; have hlt := HR_.lt; clear HR; have HR := Lib.hid HR_; have HG := Lib.hid hg_; clear HR_ hg_ hq)))
          go_ret
          refine ⟨rfl, ?_, HG.out.trans (grown_set _ _ _ _)⟩
          rw [show n - (1 + m) = 0 by omega]
          have ht : ((m : Int) :: y :: ys).drop (m + 1) = [] := List.drop_of_length_le (by have := HN.out; simp at this ⊢; omega)
          have hc := HC.out
          rw [ht] at hc ⊢
          exact (HR.out.set0 (d' := []) (c' := 0) (by simp) hc).X
        · have HC := Lib.hid (C_rest HR.out.2.2.2.1 HR.out.2.2.1 (m + 1) (by have := HN.out; simp at this ⊢; omega) (some ⟨b', off + (1 + m), none⟩) (by rw [if_neg (by omega), Nat.add_comm 1 m]; simp [Addr.add]))
          have q5 : ¬ (c : Int) = 1 + (m : Int) := by omega
          go_enter Try.func29, Try.ntmps29
          go_wp2_with (first | ((with_reducible go_at_call 44); go_must (refine (fnumber_at _ _ _ ((y :: ys).take m) _ hrl.out HCT.out (by omega) hbr.out hm8).mono ?_; rw [HNE.out]; clear h0 h1 f0 f1 hlt; rintro e w' ⟨rfl, hq⟩; have HR_ := HR.out.quiet hq; have hg_ := grown_quiet hq (some r); have h0 := HR_.c0; rw [← HNL.out] at h0; have h1 := HR_.c1; have f0 := HR_.f0; have f1 := HR_.f1; have hlt := HR_.lt; clear HR; have HR := Lib.hid HR_; have HG := Lib.hid hg_; clear HR_ hg_ hq)))
          go_ret
          refine ⟨rfl, ?_, HG.out.trans (grown_set _ _ _ _)⟩
          have hn2 : n - (1 + m) = ((m : Int) :: y :: ys).length - (m + 1) := by have := HN.out; simp at this ⊢; omega
          rw [hn2, ← List.length_drop]
          exact (HR.out.set0 (d' := ((m : Int) :: y :: ys).drop (m + 1)) (c' := c - (1 + m)) (by have := HN.out; simp at this ⊢; omega) HC.out).X
theorem R_off {W : World} {B r : Nat} {v : Value} {xs : List Int} (h : Kd.R (Kd.int .u8) 5 W B (fun _ => True) v xs) (hr : r < B) (j : Nat) (u : Value) : Kd.R (Kd.int .u8) 5 (W.setCell ⟨r, j, none⟩ u) B (fun _ => True) v xs :=
  Kd.R_mono (Kd.R_far (p := ⟨r, j, none⟩) (Kd.R_bound h) (fun k hk => by have := hk.2.1; show k ≠ r; omega) u) (fun _ _ => trivial)
theorem C_tk {w : World} {A : Option Addr} {l : List Int} {m : Nat} (h : Kd.C (Kd.int .u8) w A l.length l) (hm : m ≤ l.length) : Kd.C (Kd.int .u8) w A m (l.take m) := by
  have := Kd.C_take (m := m) h hm
  rwa [show (l.take m).length = m by rw [List.length_take]; omega] at this
theorem textD_err {d : List Int} {v : Int} {c : Nat} {e : Int} (most : Int) (h : numD d 18446744073709551615 = (v, c, e)) (he : e ≠ 0) : textD d most = ([], 0, e) := by
  have h1 : cntD d most = (v, c, e) := by unfold cntD; rw [h]; simp [he]
  unfold textD
  rw [h1]
  simp [he]
theorem textD_long {d : List Int} {v : Int} {c : Nat} {most : Int} (h : numD d 18446744073709551615 = (v, c, 0)) (hm : most < 0 ∨ most < v) : textD d most = ([], 0, 42) := by
  have h1 : cntD d most = (v, 0, 42) := by unfold cntD; rw [h]; simp [hm]
  unfold textD
  rw [h1]
  simp
theorem textD_short {d : List Int} {v : Int} {c : Nat} {most : Int} (h : numD d 18446744073709551615 = (v, c, 0)) (hm : ¬ (most < 0 ∨ most < v)) (hs : ((d.drop c).length : Int) < v) : textD d most = ([], 0, 40) := by
  have h1 : cntD d most = (v, c, 0) := by unfold cntD; rw [h]; simp [hm]
  unfold textD
  rw [h1]
  simp only [ne_eq, not_true_eq_false, if_false]
  rw [if_pos hs]
theorem textD_fit {d : List Int} {m c : Nat} {most : Int} (h : numD d 18446744073709551615 = ((m : Int), c, 0)) (hm : ¬ (most < 0 ∨ most < (m : Int))) (hs : ¬ ((d.drop c).length : Int) < (m : Int)) : textD d most = ((d.drop c).take m, c + m, 0) := by
  have h1 : cntD d most = ((m : Int), c, 0) := by unfold cntD; rw [h]; simp [hm]
  unfold textD
  rw [h1]
  simp only [ne_eq, not_true_eq_false, if_false]
  rw [if_neg hs, Int.toNat_natCast]
/-- A text is answered. -/
def FTextIs (w0 : World) (r : Nat) (d : List Int) (x : List Int × Nat × Int) (w : World) (y : Ending) (w' : World) : Prop :=
  ∃ v, y = .returned v ∧ Kd.R (Kd.int .u8) 5 w' w.heap.size (fun _ => True) v x.1 ∧ RfX w0 w' r (d.drop x.2.1) x.2.2 ∧ w.grownBy w' (some r)
theorem ftext_nil (w0 : World) (r : Nat) (d : List Int) (e : Int) (w W : World) (hr : RfX w0 W r d e) (hg : w.grownBy W (some r)) : FTextIs w0 r d ([], 0, e) w (.returned (.slice none 0 0)) W :=
  ⟨_, rfl, Kd.R_nil _ _ _ _ _, hr, hg⟩
set_option maxHeartbeats 4000000 in
set_option maxRecDepth 100000 in
theorem ftext_read (w0 : World) (r : Nat) (A : Option Addr) (c : Nat) (d : List Int) (most : Int) (w : World) (h : RfIs w0 w r A c d 0) (hl : d.length ≤ 1000000000) (hby : Byt d) (hm : -9223372036854775808 ≤ most ∧ most ≤ 9223372036854775807) :
    Calls Try.prog 30 #[.pointer (some ⟨r, 0, none⟩), .int .i64 most] w (FTextIs w0 r d (textD d most) w) := by
  have h0 := h.c0
  have hm2 := hm.2
  have hc2 := h.2.2.1
  have HK := Lib.hid h.2.2.2.1
  have HR := Lib.hid h
  have HBY := Lib.hid hby
  clear h hby
  obtain ⟨⟨v, k, e⟩, hx⟩ : ∃ x, numD d 18446744073709551615 = x := ⟨_, rfl⟩
  have nO := numD_bd d 18446744073709551615 HBY.out
  rw [hx] at nO
  simp only at nO
  obtain ⟨n0, n1, n2, n3⟩ := nO
  have HX := Lib.hid hx
  have hka : Hid (k ≤ d.length) := Lib.hid n1
  by_cases q1 : e = 0
  · subst q1
    have n3 := n3 rfl
    by_cases qn : most < 0
    · rw [textD_long hx (.inl qn)]
      clear n2 n3 hx n1
      go_enter Try.func30, Try.ntmps30
      go_wp2_with (first | ((with_reducible go_at_call 29); go_must (refine (fnum_read w0 r A c d 18446744073709551615 _ HR.out hl HBY.out (by omega) (by omega)).mono ?_; rw [HX.out]; rintro y w' ⟨rfl, ⟨A2, cc2, HR_⟩, hg⟩; have g0 := HR_.c0; have g1 := HR_.c1; have gf0 := HR_.f0; have gf1 := HR_.f1; have glt := HR_.lt; clear HR h0; have HR := Lib.hid HR_; have HG := Lib.hid hg; clear HR_ hg)))
      go_ret
      exact ftext_nil _ _ _ _ _ _ ((HR.out.set1 42).set0 hc2 HK.out).X (HG.out.trans ((grown_set _ _ _ _).trans (grown_set _ _ _ _)))
    have qn' : 0 ≤ most := by omega
    have qn'' : decide (most < 0) = false := by simpa using qn
    by_cases ql : most < v
    · rw [textD_long hx (.inr ql)]
      clear n2 n3 hx n1
      go_enter Try.func30, Try.ntmps30
      go_wp2_with (first | ((with_reducible go_at_call 29); go_must (refine (fnum_read w0 r A c d 18446744073709551615 _ HR.out hl HBY.out (by omega) (by omega)).mono ?_; rw [HX.out]; rintro y w' ⟨rfl, ⟨A2, cc2, HR_⟩, hg⟩; have g0 := HR_.c0; have g1 := HR_.c1; have gf0 := HR_.f0; have gf1 := HR_.f1; have glt := HR_.lt; clear HR h0; have HR := Lib.hid HR_; have HG := Lib.hid hg; clear HR_ hg)))
      go_ret
      exact ftext_nil _ _ _ _ _ _ ((HR.out.set1 42).set0 hc2 HK.out).X (HG.out.trans ((grown_set _ _ _ _).trans (grown_set _ _ _ _)))
    have ql' : v ≤ most := by omega
    obtain ⟨d2, hd2⟩ : ∃ x, d.drop k = x := ⟨_, rfl⟩
    have HD2 := Lib.hid hd2
    have hd2l : d2.length ≤ 1000000000 := by rw [← hd2, List.length_drop]; omega
    have hd2I : (d2.length : Int) ≤ 1000000000 := by omega
    by_cases qs : (d2.length : Int) < v
    · rw [textD_short hx (by omega) (by rw [hd2]; exact qs)]
      clear n2 n3 hx n1 hd2
      go_enter Try.func30, Try.ntmps30
      go_wp2_with (first | ((with_reducible go_at_call 29); go_must (refine (fnum_read w0 r A c d 18446744073709551615 _ HR.out hl HBY.out (by omega) (by omega)).mono ?_; rw [HX.out]; rintro y w' ⟨rfl, ⟨A2, cc2, HR_⟩, hg⟩; rw [show d.drop (_, k, _).2.1 = d2 from HD2.out] at HR_; have g0 := HR_.c0; have g1 := HR_.c1; have gf0 := HR_.f0; have gf1 := HR_.f1; have glt := HR_.lt; clear HR h0; have HR := Lib.hid HR_; have HG := Lib.hid hg; clear HR_ hg)))
      go_ret
      exact ftext_nil _ _ _ _ _ _ ((HR.out.set1 40).set0 hc2 HK.out).X (HG.out.trans ((grown_set _ _ _ _).trans (grown_set _ _ _ _)))
    · obtain ⟨m, rfl⟩ := Int.eq_ofNat_of_zero_le n0
      have qs' : (m : Int) ≤ d2.length := by omega
      have hml : m ≤ d2.length := by omega
      have HT : Hid ((d2.take m).length = m) := Lib.hid (by rw [List.length_take]; omega)
      have HDM : Hid (d2.drop m = d.drop (k + m)) := Lib.hid (by rw [← hd2, List.drop_drop])
      rw [textD_fit hx (by omega) (by rw [hd2]; exact qs), hd2]
      clear n2 n3 hx n1 hd2 qs
      go_enter Try.func30, Try.ntmps30
      go_upto_region 13 with (first | ((with_reducible go_at_call 29); go_must (refine (fnum_read w0 r A c d 18446744073709551615 _ HR.out hl HBY.out (by omega) (by omega)).mono ?_; rw [HX.out]; rintro y w' ⟨rfl, ⟨A2, cc2, HR_⟩, hg⟩; rw [show d.drop (_, k, _).2.1 = d2 from HD2.out] at HR_; have g0 := HR_.c0; have g1 := HR_.c1; have gf0 := HR_.f0; have gf1 := HR_.f1; have glt := HR_.lt; clear HR h0; have HR := Lib.hid HR_; have HG := Lib.hid hg; clear HR_ hg)))
      have hc3 := HR.out.2.2.1
      have hc3I : (d2.length : Int) ≤ cc2 := by omega
      by_cases q : cc2 = m
      · have HC := Lib.hid (C_rest HR.out.2.2.2.1 HR.out.2.2.1 m hml A2 (by rw [if_pos q]))
        have hdm : d2.length = m := by omega
        have HDMl := Lib.hid hdm
        have q' := q.symm
        subst q'
        clear hdm
        go_wp2_with (first | ((with_reducible refine gate_dst (N := 49) rfl ?_); refine Kd.R_lit (Kd.int .u8) _ 5 ?hg (N := 49) ?hd (xs := ([] : List (Int))) (inner := []) (ok := fun _ => True) (okp := fun _ => True) ?hr ?hp (fun _ hk => hk) trivial (Below.refl _ _) (Nat.le_refl _) (by simp) ?_; (case hd => rfl); (case hg => rfl); (case hr => first | (go_simp; done) | (go_simp; rfl)); (case hp => exact (Reps.none _ _)); intro vL wL hl hb hg_ hn_; clear hg_ hn_; have HL := Lib.hid hl; have HBL := Lib.hid hb; have HRL := HR.out.below hb; have hwsz := HG.out.size; have hrs := HR.out.lt; clear g0 g1 gf0 gf1 glt; have g0 := HRL.c0; clear HRL hl hb) | ((with_reducible refine gate_builtin (b := .append) (xs := #[.tmp 49, .tmp 55]) rfl ?_); at_builtin; go_must (refine Kd.R_append_rows (Kd.int .u8) (w0 := _) (_) rfl (.tmp 49) (.tmp 55) 27 5 (.int .u8 0) 1 rfl Try.underlying27 info5 rfl (by decide) (by omega) (vL) ([]) (d2.take m) _ _ _ (fun _ => True) (fun _ => False) rfl rfl (HL.out) (Kd.C_below (C_tk HR.out.C hml) HBL.out) (fun x cs h => h) (fun _ h => h.elim) (fun _ _ => trivial) HBL.out HBL.out.size ?aL ?_; (case aL => (simp; omega)); intro vA wA ho hb hg hat; have HTT := Lib.hid ho; have HR_ := HR.out.below hb; have hsz := hb.size; have hg_ := HG.out.trans (grown_below hb (some r)); clear HR HG HBL g0; have HR := Lib.hid HR_; have HG := Lib.hid hg_; have g0 := HR_.c0; have gf0 := HR_.f0; have glt := HR_.lt; clear HR_ hg_ ho hb hg hat)))
        go_ret
        refine ⟨_, rfl, Kd.R_lower (R_off (by have := HTT.out; simpa using this) hrs 0 _) hwsz, ?_, HG.out.trans (grown_set _ _ _ _)⟩
        rw [show d.drop (_, k + m, _).2.1 = d2.drop m from HDM.out.symm]
        have ht : d2.drop m = [] := List.drop_of_length_le (by have := HDMl.out; omega)
        have hc := HC.out
        rw [ht] at hc ⊢
        exact (HR.out.set0 (d' := []) (c' := 0) (by simp) hc).X
      · have q5 : ¬ (cc2 : Int) = (m : Int) := by omega
        have HC := Lib.hid (C_rest HR.out.2.2.2.1 HR.out.2.2.1 m hml (A2.map (·.add m)) (by rw [if_neg q, Nat.mul_one]))
        go_wp2_with (first | ((with_reducible refine gate_dst (N := 49) rfl ?_); refine Kd.R_lit (Kd.int .u8) _ 5 ?hg (N := 49) ?hd (xs := ([] : List (Int))) (inner := []) (ok := fun _ => True) (okp := fun _ => True) ?hr ?hp (fun _ hk => hk) trivial (Below.refl _ _) (Nat.le_refl _) (by simp) ?_; (case hd => rfl); (case hg => rfl); (case hr => first | (go_simp; done) | (go_simp; rfl)); (case hp => exact (Reps.none _ _)); intro vL wL hl hb hg_ hn_; clear hg_ hn_; have HL := Lib.hid hl; have HBL := Lib.hid hb; have HRL := HR.out.below hb; have hwsz := HG.out.size; have hrs := HR.out.lt; clear g0 g1 gf0 gf1 glt; have g0 := HRL.c0; clear HRL hl hb) | ((with_reducible refine gate_builtin (b := .append) (xs := #[.tmp 49, .tmp 55]) rfl ?_); at_builtin; go_must (refine Kd.R_append_rows (Kd.int .u8) (w0 := _) (_) rfl (.tmp 49) (.tmp 55) 27 5 (.int .u8 0) 1 rfl Try.underlying27 info5 rfl (by decide) (by omega) (vL) ([]) (d2.take m) _ _ _ (fun _ => True) (fun _ => False) rfl rfl (HL.out) (Kd.C_below (C_tk HR.out.C hml) HBL.out) (fun x cs h => h) (fun _ h => h.elim) (fun _ _ => trivial) HBL.out HBL.out.size ?aL ?_; (case aL => (simp; omega)); intro vA wA ho hb hg hat; have HTT := Lib.hid ho; have HR_ := HR.out.below hb; have hsz := hb.size; have hg_ := HG.out.trans (grown_below hb (some r)); clear HR HG HBL g0; have HR := Lib.hid HR_; have HG := Lib.hid hg_; have g0 := HR_.c0; have gf0 := HR_.f0; have glt := HR_.lt; clear HR_ hg_ ho hb hg hat)))
        go_ret
        refine ⟨_, rfl, Kd.R_lower (R_off (by have := HTT.out; simpa using this) hrs 0 _) hwsz, ?_, HG.out.trans (grown_set _ _ _ _)⟩
        rw [show d.drop (_, k + m, _).2.1 = d2.drop m from HDM.out.symm, ← List.length_drop]
        exact (HR.out.set0 (d' := d2.drop m) (c' := cc2 - m) (by rw [List.length_drop]; omega) HC.out).X
  · have n2 := n2 q1
    obtain ⟨rfl, rfl⟩ := n2
    have q1' : (e != 0) = true := by simpa using q1
    rw [textD_err most hx q1]
    clear n3 hx n1
    go_enter Try.func30, Try.ntmps30
    go_wp2_with (first | ((with_reducible go_at_call 29); go_must (refine (fnum_read w0 r A c d 18446744073709551615 _ HR.out hl HBY.out (by omega) (by omega)).mono ?_; rw [HX.out]; rintro y w' ⟨rfl, ⟨A2, cc2, HR_⟩, hg⟩; have g0 := HR_.c0; have g1 := HR_.c1; have gf0 := HR_.f0; have gf1 := HR_.f1; have glt := HR_.lt; clear HR h0; have HR := Lib.hid HR_; have HG := Lib.hid hg; clear HR_ hg)))
    go_ret
    exact ftext_nil _ _ _ _ _ _ HR.out.X HG.out
/-- The end is asked for. -/
def FEndIs (w0 : World) (r : Nat) (d : List Int) (e' : Int) (w : World) (y : Ending) (w' : World) : Prop :=
  y = .returned (.int .i64 e') ∧ RfX w0 w' r d e' ∧ w.grownBy w' (some r)
set_option maxHeartbeats 4000000 in
set_option maxRecDepth 100000 in
theorem fend_read (w0 : World) (r : Nat) (A : Option Addr) (c : Nat) (d : List Int) (e : Int) (w : World) (h : RfIs w0 w r A c d e) (hl : d.length ≤ 1000000000) :
    Calls Try.prog 36 #[.pointer (some ⟨r, 0, none⟩)] w (FEndIs w0 r d (endD d e) w) := by
  have h0 := h.c0
  have h1 := h.c1
  have f1 := h.f1
  have hlt := h.lt
  have HR := Lib.hid h
  clear h
  unfold endD
  by_cases q1 : e = 0
  · subst q1
    by_cases q2 : 0 < d.length
    · rw [if_pos ⟨rfl, q2⟩]
      have q2' : (0 : Int) < d.length := by omega
      go_enter Try.func36, Try.ntmps36
      go_wp2
      go_ret
      exact ⟨rfl, (HR.out.set1 43).X, grown_set _ _ _ _⟩
    · rw [if_neg (by omega)]
      have q2' : (d.length : Int) ≤ 0 := by omega
      go_enter Try.func36, Try.ntmps36
      go_wp2
      go_ret
      exact ⟨rfl, HR.out.X, World.grownBy.refl _ _⟩
  · rw [if_neg (by simp [q1])]
    have he : (e == 0) = false := by simpa using q1
    go_enter Try.func36, Try.ntmps36
    go_wp2
    go_ret
    exact ⟨rfl, HR.out.X, World.grownBy.refl _ _⟩
theorem textD_len (d : List Int) (each : Int) (hb : Byt d) : (textD d each).1.length ≤ d.length := by
  unfold textD
  split
  · simp
  · split
    · simp
    · simp only [List.length_take, List.length_drop]
      omega
/-- A slice's length. -/
def lenOf : Value → Nat
  | .slice _ n _ => n
  | _ => 0
theorem listD_err {d : List Int} {v : Int} {c : Nat} {e : Int} (most each : Int) (h : numD d 18446744073709551615 = (v, c, e)) (he : e ≠ 0) : listD d most each = ([], 0, e) := by
  have h1 : cntD d most = (v, c, e) := by unfold cntD; rw [h]; simp [he]
  unfold listD
  rw [h1]
  simp [he]
theorem listD_long {d : List Int} {v : Int} {c : Nat} {most : Int} (each : Int) (h : numD d 18446744073709551615 = (v, c, 0)) (hm : most < 0 ∨ most < v) : listD d most each = ([], 0, 42) := by
  have h1 : cntD d most = (v, 0, 42) := by unfold cntD; rw [h]; simp [hm]
  unfold listD
  rw [h1]
  simp
theorem listD_in {d : List Int} {v : Int} {c : Nat} {most : Int} (each : Int) (h : numD d 18446744073709551615 = (v, c, 0)) (hm : ¬ (most < 0 ∨ most < v)) : listD d most each = textsD (d.length + 1) v each (d.drop c) [] c := by
  have h1 : cntD d most = (v, c, 0) := by unfold cntD; rw [h]; simp [hm]
  unfold listD
  rw [h1]
  simp
/-- Texts are answered. -/
def FListIs (w0 : World) (r : Nat) (d : List Int) (x : List (List Int) × Nat × Int) (w : World) (y : Ending) (w' : World) : Prop :=
  ∃ v, y = .returned v ∧ Kd.S kT 27 w' w.heap.size (fun _ => True) v x.1 ∧ RfX w0 w' r (d.drop x.2.1) x.2.2 ∧ w.grownBy w' (some r)
theorem flist_nil (w0 : World) (r : Nat) (d : List Int) (e : Int) (w W : World) (hr : RfX w0 W r d e) (hg : w.grownBy W (some r)) : FListIs w0 r d ([], 0, e) w (.returned (.slice none 0 0)) W :=
  ⟨_, rfl, Kd.S_nil _ _ _ _ _, hr, hg⟩
set_option maxHeartbeats 4000000 in
set_option maxRecDepth 100000 in
theorem flist_read (w0 : World) (r : Nat) (A : Option Addr) (c : Nat) (d : List Int) (most each : Int) (w : World) (h : RfIs w0 w r A c d 0) (hl : d.length ≤ 1000000000) (hby : Byt d) (hm : -9223372036854775808 ≤ most ∧ most ≤ 9223372036854775807) (he : -9223372036854775808 ≤ each ∧ each ≤ 9223372036854775807) :
    Calls Try.prog 31 #[.pointer (some ⟨r, 0, none⟩), .int .i64 most, .int .i64 each] w (FListIs w0 r d (listD d most each) w) := by
  have h0 := h.c0
  have hm2 := hm.2
  have hc2 := h.2.2.1
  have hlt := h.lt
  have hww := h.2.2.2.2.size
  have HK := Lib.hid h.2.2.2.1
  have HR := Lib.hid h
  have HBY := Lib.hid hby
  clear h hby
  obtain ⟨⟨v, k, e⟩, hx⟩ : ∃ x, numD d 18446744073709551615 = x := ⟨_, rfl⟩
  have nO := numD_bd d 18446744073709551615 HBY.out
  rw [hx] at nO
  simp only at nO
  obtain ⟨n0, n1, n2, n3⟩ := nO
  have HX := Lib.hid hx
  by_cases q1 : e = 0
  · subst q1
    have n3 := n3 rfl
    by_cases qn : most < 0
    · rw [listD_long each hx (.inl qn)]
      clear n2 n3 hx n1
      go_enter Try.func31, Try.ntmps31
      go_wp2_with (first | ((with_reducible go_at_call 29); go_must (refine (fnum_read w0 r A c d 18446744073709551615 _ HR.out hl HBY.out (by omega) (by omega)).mono ?_; rw [HX.out]; rintro y w' ⟨rfl, ⟨A2, cc2, HR_⟩, hg⟩; have g0 := HR_.c0; have g1 := HR_.c1; have gf0 := HR_.f0; have gf1 := HR_.f1; have glt := HR_.lt; clear HR h0; have HR := Lib.hid HR_; have HG := Lib.hid hg; clear HR_ hg)))
      go_ret
      exact flist_nil _ _ _ _ _ _ ((HR.out.set1 42).set0 hc2 HK.out).X (HG.out.trans ((grown_set _ _ _ _).trans (grown_set _ _ _ _)))
    have qn' : 0 ≤ most := by omega
    have qn'' : decide (most < 0) = false := by simpa using qn
    by_cases ql : most < v
    · rw [listD_long each hx (.inr ql)]
      clear n2 n3 hx n1
      go_enter Try.func31, Try.ntmps31
      go_wp2_with (first | ((with_reducible go_at_call 29); go_must (refine (fnum_read w0 r A c d 18446744073709551615 _ HR.out hl HBY.out (by omega) (by omega)).mono ?_; rw [HX.out]; rintro y w' ⟨rfl, ⟨A2, cc2, HR_⟩, hg⟩; have g0 := HR_.c0; have g1 := HR_.c1; have gf0 := HR_.f0; have gf1 := HR_.f1; have glt := HR_.lt; clear HR h0; have HR := Lib.hid HR_; have HG := Lib.hid hg; clear HR_ hg)))
      go_ret
      exact flist_nil _ _ _ _ _ _ ((HR.out.set1 42).set0 hc2 HK.out).X (HG.out.trans ((grown_set _ _ _ _).trans (grown_set _ _ _ _)))
    have ql' : v ≤ most := by omega
    rw [listD_in each hx (by omega)]
    obtain ⟨X, hX⟩ : ∃ X, textsD (d.length + 1) v each (d.drop k) [] k = X := ⟨_, rfl⟩
    rw [hX]
    have hst : Hid (Stage X d 0 k k (d.length + 1) each (v - (([] : List (List Int)).length : Int)) 0 []) := Lib.hid (by
      exact .inl ⟨rfl, by omega, n1, by rw [← hX]; simp, by rw [List.length_drop]; omega, Nat.zero_le _⟩)
    obtain ⟨f0, hf0⟩ : ∃ f, f = d.length + 1 := ⟨_, rfl⟩
    rw [← hf0] at hst
    have hv64 : v < 18446744073709551616 := n3.2
    clear n1 n2 n3 hX hf0 hx
    go_enter Try.func31, Try.ntmps31
    go_upto_region 10 with (first | ((with_reducible go_at_call 29); go_must (refine (fnum_read w0 r A c d 18446744073709551615 _ HR.out hl HBY.out (by omega) (by omega)).mono ?_; rw [HX.out]; rintro y w' ⟨rfl, ⟨A2, cc2, HR_⟩, hg⟩; have g0 := HR_.c0; have g1 := HR_.c1; have gf0 := HR_.f0; have gf1 := HR_.f1; have glt := HR_.lt; clear HR h0; have HR := Lib.hid HR_; have HG := Lib.hid hg; clear HR_ hg)))
    clear g0 g1 gf0 gf1 glt
    go_loopw [9, 10] (fun u9 u10 wr => ∃ (at' c' f : Nat) (Ao : Option Addr) (co : Nat) (acc : List (List Int)) (A2 : Option Addr) (cc2 : Nat) (tv : Value), u9 = .slice Ao acc.length co ∧ u10 = tv ∧ (acc.length : Int) ≤ v ∧ Hid (RfIs w0 wr r A2 cc2 (d.drop at') 0) ∧ Hid (w.grownBy wr (some r)) ∧ Hid (Kd.S kT 27 wr w.heap.size (fun k => w.heap.size ≤ k) (.slice Ao acc.length co) acc) ∧ Hid (Stage X d 0 at' c' f each (v - acc.length) 0 acc)) (fun u9 _ _ => v.toNat - lenOf u9)
    case atStart => exact ⟨k, k, f0, none, 0, [], A2, cc2, _, rfl, rfl, n0, HR, HG, Lib.hid (Kd.S_nil _ _ _ _ _), hst⟩
    clear HR HG hst HX A2 cc2
    obtain ⟨at', c', f, Ao, co, acc, A2, cc2, tv, rfl, rfl, ha, HR, HG, HS, HT⟩ := hrel
    have hacc := stage_bd HT.out
    have haI : (acc.length : Int) ≤ 1000000000 := by omega
    have g0 := HR.out.c0
    have g1 := HR.out.c1
    by_cases q2 : (acc.length : Int) < v
    · obtain ⟨f', hnx⟩ := stage_next HBY.out HT.out (by omega)
      obtain ⟨d2, hd2⟩ : ∃ x, d.drop at' = x := ⟨_, rfl⟩
      have hd2l : d2.length ≤ 1000000000 := by rw [← hd2, List.length_drop]; omega
      have hd2b : Hid (Byt d2) := Lib.hid (by rw [← hd2]; exact byt_drop HBY.out at')
      have HD2 := Lib.hid hd2
      have htl := textD_bd d2 each hd2b.out
      rw [hd2] at hnx HR
      obtain ⟨⟨t, k2, e2⟩, ht⟩ : ∃ x, textD d2 each = x := ⟨_, rfl⟩
      rw [ht] at hnx htl
      simp only at hnx htl
      have HTD := Lib.hid ht
      have htl' : t.length ≤ 1000000000 := (by have := textD_len d2 each hd2b.out; rw [HTD.out] at this; simp only at this; omega)
      clear hd2 ht HT g0 htl
      have HNX := Lib.hid hnx
      clear hnx
      by_cases q3 : e2 = 0
      · subst q3
        go_wp2_with (first | ((with_reducible go_at_call 30); go_must (refine (ftext_read w0 r A2 cc2 d2 each _ HR.out hd2l hd2b.out he).mono ?_; rw [HTD.out]; rintro y w' ⟨vT, rfl, ht, ⟨A3, cc3, hr⟩, hg⟩; obtain ⟨AT, cT, rfl⟩ := Kd.R_slice ht; have hs_ := S_ahead HS.out hg hlt; have hlw := HG.out.size; have hsl_ := Kd.S_lt HS.out; have hg_ := HG.out.trans hg; have HSL := Lib.hid hsl_; have hr_ : RfIs w0 w' r A3 cc3 (d.drop (at' + k2)) 0 := (by have q := hr; rw [← HD2.out] at q; simpa [List.drop_drop] using q); clear HR HG HS g1 hsl_; have HR := Lib.hid hr_; have HG := Lib.hid hg_; have HS := Lib.hid hs_; have HTX := Lib.hid ht; have g1 := hr_.c1; have gf0 := hr_.f0; have glt := hr_.lt; obtain ⟨n9, hn9⟩ : ∃ n, (d.drop (at' + k2)).length = n := ⟨_, rfl⟩; have g9 := hr_.c0; rw [hn9] at g9; clear hn9 hr hr_ hg hg_ hs_ ht)) | ((with_reducible refine gate_builtin (b := .append) (xs := #[.tmp 54, .tmp 56]) rfl ?_); at_builtin; go_must (refine Kd.S_append kT (w0 := _) w.heap.size rfl (.tmp 54) (.tmp 56) 23 27 (.slice none 0 0) 24 rfl Try.underlying23 Go.Proofs.Ytnkaalapjlmmiaa.WireR3.info27 rfl (by decide) (by omega) _ acc t [.slice AT t.length cT] (fun k => w.heap.size ≤ k) (fun k => wr.heap.size ≤ k) rfl rfl (Kd.M_row (Kd.R_lower (Kd.R_mono (Kd.R_bound HTX.out) (fun k hk => hk.2.1)) hlw)) (fun k hk => ⟨Nat.le_trans hlw hk, fun e => Nat.lt_irrefl _ (Nat.lt_of_lt_of_le (HSL.out k e.symm) hk)⟩) (fun k hk => Nat.le_trans HG.out.size hk) HS.out (Below.refl _ _) HG.out.size ?aL ?_; (case aL => omega); intro vA wA ho hb hg hat2; obtain ⟨AV, cV, rfl⟩ := Kd.S_slice ho; have hb2 := Below.grown HR.out.2.2.2.2 hg HR.out.2.2.2.2.size (fun k hk => Nat.le_trans hww (Kd.S_base HS.out k hk)); have hr_ := HR.out.other hg (fun e => by have := Kd.S_base HS.out r e.symm; omega) hb2; have hg_ := World.grownBy.andThen HG.out hg (fun j hj => .inl (Kd.S_base HS.out j hj)); clear HR HG HS g1 gf0 glt g9; have HR := Lib.hid hr_; have HG := Lib.hid hg_; have HS := Lib.hid ho; clear hr_ hg_ ho hb hb2 hg hat2)))
        refine ⟨⟨_, _, f', AV, cV, _, _, _, _, by rw [List.length_append]; rfl, rfl, by simp; omega, HR, HG, HS, Lib.hid (by have := HNX.out; rw [show v - ((acc ++ [t]).length : Int) = v - (acc.length : Int) - 1 by simp; omega]; exact this)⟩, by simp [lenOf]; omega⟩
      · have q3' : (e2 != 0) = true := by simpa using q3
        have hXe : Hid (X = ([], 0, e2)) := Lib.hid (by rcases HNX.out with ⟨h, _⟩ | ⟨_, h⟩; exact absurd h q3; exact h)
        go_wp2_with (first | ((with_reducible go_at_call 30); go_must (refine (ftext_read w0 r A2 cc2 d2 each _ HR.out hd2l hd2b.out he).mono ?_; rw [HTD.out]; rintro y w' ⟨vT, rfl, ht, ⟨A3, cc3, hr⟩, hg⟩; obtain ⟨AT, cT, rfl⟩ := Kd.R_slice ht; have hs_ := S_ahead HS.out hg hlt; have hlw := HG.out.size; have hsl_ := Kd.S_lt HS.out; have hg_ := HG.out.trans hg; have HSL := Lib.hid hsl_; have hr_ : RfIs w0 w' r A3 cc3 (d.drop (at' + k2)) e2 := (by have q := hr; rw [← HD2.out] at q; simpa [List.drop_drop] using q); clear HR HG HS g1 hsl_; have HR := Lib.hid hr_; have HG := Lib.hid hg_; have HS := Lib.hid hs_; have HTX := Lib.hid ht; have g1 := hr_.c1; have gf0 := hr_.f0; have glt := hr_.lt; obtain ⟨n9, hn9⟩ : ∃ n, (d.drop (at' + k2)).length = n := ⟨_, rfl⟩; have g9 := hr_.c0; rw [hn9] at g9; clear hn9 hr hr_ hg hg_ hs_ ht)))
        go_ret
        rw [hXe.out]
        exact flist_nil _ _ _ _ _ _ (HR.out.set0 hc2 HK.out).X (HG.out.trans (grown_set _ _ _ _))
    · have q2' : v ≤ (acc.length : Int) := by omega
      have HT2 : Hid (Stage X d 0 at' c' f each 0 0 acc) := Lib.hid (by have := HT.out; rwa [show v - (acc.length : Int) = 0 by omega] at this)
      obtain ⟨hX1, hX2⟩ := stage_end HT2.out
      have HX1 := Lib.hid hX1
      have HX2 := Lib.hid hX2
      clear hX1 hX2 HT HT2 q2
      go_wp2
      go_ret
      refine ⟨_, rfl, by rw [HX1.out]; exact Kd.S_mono HS.out (fun _ _ => trivial), ?_, HG.out⟩
      rw [HX1.out]
      have := HR.out.X
      rw [HX2.out, Nat.zero_add] at this
      exact this
  · have n2 := n2 q1
    obtain ⟨rfl, rfl⟩ := n2
    have q1' : (e != 0) = true := by simpa using q1
    rw [listD_err most each hx q1]
    clear n3 hx n1
    go_enter Try.func31, Try.ntmps31
    go_wp2_with (first | ((with_reducible go_at_call 29); go_must (refine (fnum_read w0 r A c d 18446744073709551615 _ HR.out hl HBY.out (by omega) (by omega)).mono ?_; rw [HX.out]; rintro y w' ⟨rfl, ⟨A2, cc2, HR_⟩, hg⟩; have g0 := HR_.c0; have g1 := HR_.c1; have gf0 := HR_.f0; have gf1 := HR_.f1; have glt := HR_.lt; clear HR h0; have HR := Lib.hid HR_; have HG := Lib.hid hg; clear HR_ hg)))
    go_ret
    exact flist_nil _ _ _ _ _ _ HR.out.X HG.out
end Go.Proofs.Ytnkaalapjlmmiaa.WireF
