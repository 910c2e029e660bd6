-- PRINTED BY print.sh 35421559b90ae4d0a3588c463048766b98c2df88dd9212a6774a882060cdf62d: not written by this session
import Derived.Test.YtnkaalapjlmmiaaPWireReadsx0
namespace Go.Proofs.Ytnkaalapjlmmiaa.PWireReads
open Go.RowKit Go.Proofs.YtnkaalapjlmmiaaW.PrintWords Go.Proofs.YtnkaalapjlmmiaaW.PrintLast Go.Proofs.YtnkaalapjlmmiaaW.PrintMore
attribute [local go_sem] max2_int min2_int max_two min_two max_three min_three max_four min_four   -- for this text's walks alone
set_option linter.unusedVariables false
set_option linter.unusedSimpArgs false

/-! ### juratref01_Number: function 44 -/
def juratref01_Number.l0 : Nat → List Int → Int → Int → Option (Int × Int)
  | 0, _, _, _ => none
  | k + 1, x0, x4, x5 => if x5 < (x0.length : Int) then (if 0 ≤ x5 then (juratref01_Number.l0 k x0 (IntKind.u64.wrap ((IntKind.u64.wrap (x4 * 256)) + (IntKind.u64.wrap (rd x0 x5)))) (wrap64 (x5 + 1))) else (none)) else (some (x4, 0))
def juratref01_Number.f (k : Nat) (l0 : List Int) : Option (Int × Int) := if (l0.length : Int) > 8 then (some (0, 1)) else (juratref01_Number.l0 k l0 0 0)
theorem juratref01_Number.mono_l : ∀ k, (∀ y0 y1 y2, LeO (juratref01_Number.l0 k y0 y1 y2) (juratref01_Number.l0 (k + 1) y0 y1 y2))
  | 0 => fun _ _ _ r h => by simp [juratref01_Number.l0] at h
  | k + 1 => by
    have ih0 := juratref01_Number.mono_l k
    · intro y0 y1 y2
      unfold juratref01_Number.l0
      repeat' first
      | (with_reducible exact ih0 _ _ _)
      | (with_reducible exact LeO.refl _)
      | (with_reducible exact LeO.none _)
      | (with_reducible refine LeO.ite ?_ ?_)
      | (with_reducible refine LeO.bind ?_ (fun _ => ?_))
      | exact ih0 _ _ _
      | exact LeO.none _
      | refine LeO.ite ?_ ?_
      | refine LeO.bind ?_ (fun _ => ?_)
theorem juratref01_Number.mono : ∀ a0 k, LeO (juratref01_Number.f k a0) (juratref01_Number.f (k + 1) a0) := by
  intro a0 k
  have ih0 := juratref01_Number.mono_l k
  unfold juratref01_Number.f
  repeat' first
      | (with_reducible exact ih0 _ _ _)
      | (with_reducible exact LeO.refl _)
      | (with_reducible exact LeO.none _)
      | (with_reducible refine LeO.ite ?_ ?_)
      | (with_reducible refine LeO.bind ?_ (fun _ => ?_))
      | exact ih0 _ _ _
      | exact LeO.none _
      | refine LeO.ite ?_ ?_
      | refine LeO.bind ?_ (fun _ => ?_)
set_option maxHeartbeats 8000000 in
set_option maxRecDepth 100000 in
theorem juratref01_Number.calls (k : Nat) (A0 : Option Addr) (c0 : Nat) (l0 : List Int) (r1 : Int) (r2 : Int) (w : World) (hr0 : Kd.C (Kd.int .u8) w A0 l0.length l0) (hc0 : l0.length ≤ c0) (h : juratref01_Number.f k l0 = some (r1, r2)) :
    Calls Try.prog 44 #[.slice A0 l0.length c0] w fun e w' => e = .returned (.tuple #[.int .u64 r1, .int .i64 r2]) ∧ Drawn0 w w' := by
  have HR0 := Aside0.mk hr0
  have HC0 := Aside0.mk hc0
  clear hr0 hc0
  have H : (if (l0.length : Int) > 8 then (some (0, 1)) else (juratref01_Number.l0 k l0 0 0)) = some (r1, r2) := h
  clear h
  by_cases c2 : (l0.length : Int) > 8
  · rw [if_pos c2] at H
    have c2b0 : decide (8 < (l0.length : Int)) = true := decide_eq_true c2
    have c2b1 : decide (8 < l0.length) = true := decide_eq_true (by omega)
    clear c2
    simp only [Option.some.injEq, Prod.mk.injEq] at H
    obtain ⟨rfl, rfl⟩ := H
    go_enter Try.func44, Try.ntmps44
    go_wp2
    go_ret2
    exact ⟨by first | rfl | (simp; done) | (simp [*]; done), by repeat (first | exact Drawn0.refl _ | apply Drawn0.step)⟩
  · rw [if_neg c2] at H
    have c2b0 : decide (8 < (l0.length : Int)) = false := decide_eq_false c2
    have c2b1 : decide (8 < l0.length) = false := decide_eq_false (by omega)
    clear c2
    have H' := Aside0.mk H
    clear H
    go_enter Try.func44, Try.ntmps44
    go_wp2
    go_loopg [4, 5] k (fun kq v4 v5 w' => ∃ (x4_1 : Int) (x5_1 : Int), v4 = .int .u64 x4_1 ∧ v5 = .int .i64 x5_1 ∧ Aside0 (juratref01_Number.l0 kq l0 x4_1 x5_1 = some (r1, r2)) ∧ Aside0 (kq ≤ k) ∧ Drawn0 w w')
    case atStart => exact ⟨(0), (0), (by first | rfl | (simp; done) | (simp [*]; done)), (by first | rfl | (simp; done) | (simp [*]; done)), H', ⟨Nat.le_refl _⟩, by repeat (first | exact Drawn0.refl _ | apply Drawn0.step)⟩
    case round =>
      clear H'
      try clear c2
      try clear c2b0
      try clear c2b1
      try clear p2
      obtain ⟨x4_1, x5_1, rfl, rfl, HA, HK1, ⟨m1, rfl⟩⟩ := hrel
      cases gk with
      | zero => exact absurd HA.out (by simp [juratref01_Number.l0])
      | succ k1 =>
        have H := HA.out
        clear HA
        simp only [juratref01_Number.l0] at H
        by_cases c3 : x5_1 < (l0.length : Int)
        · rw [if_pos c3] at H
          have c3b0 : decide (x5_1 < (l0.length : Int)) = true := decide_eq_true c3
          clear c3
          by_cases c4 : 0 ≤ x5_1
          · rw [if_pos c4] at H
            have c4b0 : decide (0 ≤ x5_1) = true := decide_eq_true c4
            clear c4
            have H' := Aside0.mk H
            clear H
            have p124 : 0 ≤ (x5_1 : Int) := of_decide_eq_true (by first | (with_reducible assumption) | assumption)
            have q124 : x5_1 < (l0.length : Int) := of_decide_eq_true (by first | (with_reducible assumption) | assumption)
            obtain ⟨ad124, e124, hx124_0⟩ := Kd.at_int HR0.out x5_1 p124 q124
            cases e124
            replace p124 := eq_true p124
            replace q124 := eq_true q124
            go_wp2
            go_roundg k1
            case measure => have := HK1.out; omega
            case rel => exact ⟨(IntKind.u64.wrap ((IntKind.u64.wrap (x4_1 * 256)) + (IntKind.u64.wrap (rd l0 x5_1)))), (wrap64 (x5_1 + 1)), (by first | rfl | (simp; done) | (simp [*]; done)), (by first | rfl | (simp; done) | (simp [*]; done)), H', ⟨by have := HK1.out; omega⟩, by repeat (first | exact Drawn0.refl _ | apply Drawn0.step)⟩
          · rw [if_neg c4] at H
            exact absurd H (by simp)
        · rw [if_neg c3] at H
          have c3b0 : decide (x5_1 < (l0.length : Int)) = false := decide_eq_false c3
          clear c3
          simp only [Option.some.injEq, Prod.mk.injEq] at H
          obtain ⟨rfl, rfl⟩ := H
          go_wp2
          go_ret2
          exact ⟨by first | rfl | (simp; done) | (simp [*]; done), by repeat (first | exact Drawn0.refl _ | apply Drawn0.step)⟩

-- NOT PRINTED: function 29 (juratref04_Reader_Num)

-- NOT PRINTED: function 30 (juratref04_Reader_Text)

-- NOT PRINTED: function 31 (juratref04_Reader_List)

-- NOT PRINTED: function 32 (wire_Reader_Byte)

-- NOT PRINTED: function 33 (juratref04_Reader_Byte)

-- NOT PRINTED: function 34 (wire_Reader_Digest)

-- NOT PRINTED: function 35 (juratref04_Reader_Digest)

/-- A state of type 48 at block g of W; what its slices lead to came in by w0. -/
def IsS48 (w0 W : World) (g : Nat) (f0 : List Int) (f1 : Int) : Prop := ∃ A0 c0, W.heap[g]? = some (.cells #[.slice A0 f0.length c0, .int .i64 f1] 48 (0, 0)) ∧ w0.heap.size ≤ g ∧ Kd.C (Kd.int .u8) w0 A0 f0.length f0
theorem IsS48.grown {w0 W : World} {g : Nat} {f0 : List Int} {f1 : Int} {W1 : World} {row : Option Nat} (h : IsS48 w0 W g f0 f1) (hw : W.grownBy W1 row) (hne : some g ≠ row) : IsS48 w0 W1 g f0 f1 := by
  obtain ⟨A0, c0, hb, hg, hr0⟩ := h
  exact ⟨A0, c0, blk_grown hb hw hne, hg, hr0⟩
theorem IsS48.own_neN {w0 W : World} {g : Nat} {f0 : List Int} {f1 : Int} {α : Type} {d : Kd α} {e : Nat} {base : Nat} {ok : Nat → Prop} {v : Value} {xs : List α} (h : IsS48 w0 W g f0 f1) (ho : Kd.N d e W base ok v xs) (ht : e ≠ 48) : some g ≠ v.ownBlock := by
  obtain ⟨A0, c0, hb, hg, hr0⟩ := h
  exact Kd.N_ne ho hb ht
theorem IsS48.fresh {w0 W : World} {g : Nat} {f0 : List Int} {f1 : Int} (h : IsS48 w0 W g f0 f1) : ∀ k, W.heap.size ≤ k → k ≠ g := by
  obtain ⟨A0, c0, hb, hg, hr0⟩ := h
  exact Kd.freshB hb
theorem IsS48.kept {w0 W : World} {g : Nat} {f0 : List Int} {f1 : Int} {W1 : World} {S : Nat → Prop} (h : IsS48 w0 W g f0 f1) (hk : Kept W W1 S) (hne : ¬ S g) : IsS48 w0 W1 g f0 f1 := by
  obtain ⟨A0, c0, hb, hg, hr0⟩ := h
  exact ⟨A0, c0, blk_kept hb hk hne, hg, hr0⟩
theorem IsS48.below {w0 W : World} {g : Nat} {f0 : List Int} {f1 : Int} {W1 : World} (h : IsS48 w0 W g f0 f1) (hw : Below W.heap.size W W1) : IsS48 w0 W1 g f0 f1 := h.grown (grown_of_below hw none) (by simp)
theorem IsS48.alloc {w0 W : World} {g : Nat} {f0 : List Int} {f1 : Int} (h : IsS48 w0 W g f0 f1) (o : Obj) : IsS48 w0 (W.alloc o) g f0 f1 := h.below (below_alloc (Below.refl _ _) o)
theorem IsS48.drewN {w0 W : World} {g : Nat} {f0 : List Int} {f1 : Int} (h : IsS48 w0 W g f0 f1) (m : Nat) : IsS48 w0 (W.drewN m) g f0 f1 := h
theorem IsS48.drew {w0 W : World} {g : Nat} {f0 : List Int} {f1 : Int} (h : IsS48 w0 W g f0 f1) : IsS48 w0 W.drew g f0 f1 := h
theorem IsS48.at_ {w0 W : World} {g : Nat} {f0 : List Int} {f1 : Int} {w' : World} {m : Nat} (hq : W.drewN m = w') (h : IsS48 w0 W g f0 f1) : IsS48 w0 w' g f0 f1 := by subst hq; exact IsS48.drewN h m
theorem IsS48.apart {w0 W : World} {g : Nat} {f0 : List Int} {f1 : Int} {α : Type} {d : Kd α} {e : Nat} {base : Nat} {ok : Nat → Prop} {v : Value} {xs : List α} (h : IsS48 w0 W g f0 f1) (ho : d.R e W base ok v xs) (ht : ∀ q, q ∈ e :: d.E → q ≠ 48) : d.R e W base (fun k => ok k ∧ k ≠ g) v xs := by
  obtain ⟨A0, c0, hb, hg, hr0⟩ := h
  exact Kd.R_types ho hb ht
theorem IsS48.own_ne {w0 W : World} {g : Nat} {f0 : List Int} {f1 : Int} {α : Type} {d : Kd α} {e : Nat} {base : Nat} {ok : Nat → Prop} {v : Value} {xs : List α} (h : IsS48 w0 W g f0 f1) (ho : d.R e W base ok v xs) (ht : e ≠ 48) : some g ≠ v.ownBlock := by
  obtain ⟨A0, c0, hb, hg, hr0⟩ := h
  exact Kd.R_ne ho hb ht
theorem IsS48.apartQ {w0 W : World} {g : Nat} {f0 : List Int} {f1 : Int} {α : Type} {d : Kd α} {e : Nat} {base : Nat} {ok : Nat → Prop} {v : Value} {xs : List α} (h : IsS48 w0 W g f0 f1) (ho : d.Q e W base ok v xs) (ht : ∀ q, q ∈ e :: d.E → q ≠ 48) : d.Q e W base (fun k => ok k ∧ k ≠ g) v xs := by
  obtain ⟨A0, c0, hb, hg, hr0⟩ := h
  exact Kd.Q_types ho hb ht
theorem IsS48.own_neQ {w0 W : World} {g : Nat} {f0 : List Int} {f1 : Int} {α : Type} {d : Kd α} {e : Nat} {base : Nat} {ok : Nat → Prop} {v : Value} {xs : List α} (h : IsS48 w0 W g f0 f1) (ho : d.Q e W base ok v xs) (ht : e ≠ 48) : some g ≠ v.ownBlock := by
  obtain ⟨A0, c0, hb, hg, hr0⟩ := h
  exact Kd.Q_ne ho hb ht
theorem IsS48.apartS {w0 W : World} {g : Nat} {f0 : List Int} {f1 : Int} {α : Type} {d : Kd α} {e : Nat} {base : Nat} {ok : Nat → Prop} {v : Value} {xs : List α} (h : IsS48 w0 W g f0 f1) (ho : d.S e W base ok v xs) (ht : ∀ q, q ∈ e :: d.E → q ≠ 48) : d.S e W base (fun k => ok k ∧ k ≠ g) v xs := by
  obtain ⟨A0, c0, hb, hg, hr0⟩ := h
  exact Kd.S_types ho hb ht
theorem IsS48.own_neS {w0 W : World} {g : Nat} {f0 : List Int} {f1 : Int} {α : Type} {d : Kd α} {e : Nat} {base : Nat} {ok : Nat → Prop} {v : Value} {xs : List α} (h : IsS48 w0 W g f0 f1) (ho : d.S e W base ok v xs) (ht : e ≠ 48) : some g ≠ v.ownBlock := by
  obtain ⟨A0, c0, hb, hg, hr0⟩ := h
  exact Kd.S_ne ho hb ht
theorem IsS48.lt {w0 W : World} {g : Nat} {f0 : List Int} {f1 : Int} (h : IsS48 w0 W g f0 f1) : g < W.heap.size := by
  obtain ⟨A0, c0, hb, hg, hr0⟩ := h
  exact blk_lt hb
theorem IsS48.ge {w0 W : World} {g : Nat} {f0 : List Int} {f1 : Int} (h : IsS48 w0 W g f0 f1) : w0.heap.size ≤ g := by
  obtain ⟨A0, c0, hb, hg, hr0⟩ := h
  exact hg
theorem IsS48.ne_blk {w0 W : World} {g : Nat} {f0 : List Int} {f1 : Int} {a : Nat} {cs : Array Value} {t : TypeId} {fr : Nat × Nat} (h : IsS48 w0 W g f0 f1) (hb2 : W.heap[a]? = some (.cells cs t fr)) (ht : t ≠ 48) : g ≠ a := by
  obtain ⟨A0, c0, hb, hg, hr0⟩ := h
  rintro rfl
  rw [hb] at hb2
  injection hb2 with hb2
  injection hb2 with _ ht2
  exact ht ht2.symm
theorem IsS48.far {w0 W : World} {g : Nat} {f0 : List Int} {f1 : Int} {p : Addr} (h : IsS48 w0 W g f0 f1) (hne : g ≠ p.block) (u : Value) : IsS48 w0 (W.setCell p u) g f0 f1 := by
  obtain ⟨A0, c0, hb, hg, hr0⟩ := h
  exact ⟨A0, c0, blk_far hb hne u, hg, hr0⟩
theorem cellS48_0 {W : World} {g : Nat} {A0 : Option Addr} {c0 : Nat} {f0 : List Int} {f1 : Int} (h : W.heap[g]? = some (.cells #[.slice A0 f0.length c0, .int .i64 f1] 48 (0, 0))) : W.cell? ⟨g, 0, none⟩ = some (.slice A0 f0.length c0) := (blk_cell h 0).trans rfl
theorem cellS48_1 {W : World} {g : Nat} {A0 : Option Addr} {c0 : Nat} {f0 : List Int} {f1 : Int} (h : W.heap[g]? = some (.cells #[.slice A0 f0.length c0, .int .i64 f1] 48 (0, 0))) : W.cell? ⟨g, 1, none⟩ = some (.int .i64 f1) := (blk_cell h 1).trans rfl
theorem IsS48.set_1 {w0 W : World} {g : Nat} {f0 : List Int} {f1 : Int} (h : IsS48 w0 W g f0 f1) (x : Int) : IsS48 w0 (W.setCell ⟨g, 1, none⟩ (.int .i64 x)) g f0 x := by
  obtain ⟨A0, c0, hb, hg, hr0⟩ := h
  exact ⟨A0, c0, by simpa using blk_set hb 1 (.int .i64 x), hg, hr0⟩
theorem IsS48.new (w0 W : World) (A0 : Option Addr) (c0 : Nat) (f0 : List Int) (f1 : Int) (hB : Below w0.heap.size w0 W) (hr0 : Kd.C (Kd.int .u8) w0 A0 f0.length f0) : IsS48 w0 (W.alloc (.cells #[.slice A0 f0.length c0, .int .i64 f1] 48)) W.heap.size f0 f1 := ⟨A0, c0, by simpa using heap_alloc_new W _, hB.size, hr0⟩

/-! ### juratref04_Reader_End: function 36 -/
def juratref04_Reader_End.f (s0_0 : List Int) (s0_1 : Int) : Option (Int × Int) := if s0_1 = 0 then (if (s0_0.length : Int) > 0 then (some (43, 43)) else (some (s0_1, s0_1))) else (some (s0_1, s0_1))
set_option maxHeartbeats 8000000 in
set_option maxRecDepth 100000 in
theorem juratref04_Reader_End.calls (g : Nat) (s0_0 : List Int) (s0_1 : Int) (r1 : Int) (r2 : Int) (w0 w : World) (hI : IsS48 w0 w g s0_0 s0_1) (hB : Below w0.heap.size w0 w) (h : juratref04_Reader_End.f s0_0 s0_1 = some (r1, r2)) :
    Calls Try.prog 36 #[.pointer (some ⟨g, 0, none⟩)] w fun e w' => e = .returned (.int .i64 r1) ∧ IsS48 w0 w' g s0_0 r2 ∧ Below w0.heap.size w0 w' ∧ KeepBut w w' g none := by
  have HI0 := Aside0.mk hI
  have HK := Aside0.mk (KeepBut.refl w g none)
  have HL := Aside0.mk hB.size
  clear hI
  have HW0 := Aside0.mk hB.size
  have HB := Aside0.mk hB
  clear hB
  have H : (if s0_1 = 0 then (if (s0_0.length : Int) > 0 then (some (43, 43)) else (some (s0_1, s0_1))) else (some (s0_1, s0_1))) = some (r1, r2) := h
  clear h
  by_cases c2 : s0_1 = 0
  · rw [if_pos c2] at H
    have c2b0 : (s0_1 == 0) = true := beq_iff_eq.mpr c2
    have c2b1 : (s0_1 != 0) = false := bne_eq_false_iff_eq.mpr c2
    clear c2
    by_cases c3 : (s0_0.length : Int) > 0
    · rw [if_pos c3] at H
      have c3b0 : decide (0 < (s0_0.length : Int)) = true := decide_eq_true c3
      have c3b1 : decide (0 < s0_0.length) = true := decide_eq_true (by omega)
      clear c3
      simp only [Option.some.injEq, Prod.mk.injEq] at H
      obtain ⟨rfl, rfl⟩ := H
      obtain ⟨ASz4_0, cSz4_0, HGz4, hgz4, HSz4_0⟩ := HI0.out
      have hcz4_0 := cellS48_0 HGz4
      have hcz4_1 := cellS48_1 HGz4
      have hfz4_1 := blk_frozen HGz4 1
      clear HGz4 hgz4
      go_enter Try.func36, Try.ntmps36
      go_wp2
      go_ret
      exact ⟨by first | rfl | (simp [errW_none, errW_some] <;> rfl) | (simp [*, errW_none, errW_some] <;> rfl), by repeat (first | (with_reducible first | exact HI0.out | apply IsS48.alloc | apply IsS48.drewN | apply IsS48.drew | apply IsS48.set_1) | exact HI0.out), by repeat (first | (with_reducible first | exact HB.out | apply below_alloc | apply pw_below_drewN | apply below_drew1 | refine below_set ?_ (IsS48.ge HI0.out)) | exact HB.out), by repeat (first | (with_reducible first | exact HK.out | apply KeepBut.set_ | apply keep_drewN | apply keep_drew | apply keep_alloc) | exact HK.out)⟩
    · rw [if_neg c3] at H
      have c3b0 : decide (0 < (s0_0.length : Int)) = false := decide_eq_false c3
      have c3b1 : decide (0 < s0_0.length) = false := decide_eq_false (by omega)
      clear c3
      simp only [Option.some.injEq, Prod.mk.injEq] at H
      obtain ⟨rfl, rfl⟩ := H
      obtain ⟨ASz5_0, cSz5_0, HGz5, hgz5, HSz5_0⟩ := HI0.out
      have hcz5_0 := cellS48_0 HGz5
      have hcz5_1 := cellS48_1 HGz5
      have hfz5_1 := blk_frozen HGz5 1
      clear HGz5 hgz5
      go_enter Try.func36, Try.ntmps36
      go_wp2
      go_ret
      exact ⟨by first | rfl | (simp [errW_none, errW_some] <;> rfl) | (simp [*, errW_none, errW_some] <;> rfl), by repeat (first | (with_reducible first | exact HI0.out | apply IsS48.alloc | apply IsS48.drewN | apply IsS48.drew | apply IsS48.set_1) | exact HI0.out), by repeat (first | (with_reducible first | exact HB.out | apply below_alloc | apply pw_below_drewN | apply below_drew1 | refine below_set ?_ (IsS48.ge HI0.out)) | exact HB.out), by repeat (first | (with_reducible first | exact HK.out | apply KeepBut.set_ | apply keep_drewN | apply keep_drew | apply keep_alloc) | exact HK.out)⟩
  · rw [if_neg c2] at H
    have c2b0 : (s0_1 == 0) = false := beq_eq_false_iff_ne.mpr c2
    have c2b1 : (s0_1 != 0) = true := bne_iff_ne.mpr c2
    simp only [Option.some.injEq, Prod.mk.injEq] at H
    obtain ⟨rfl, rfl⟩ := H
    obtain ⟨ASz6_0, cSz6_0, HGz6, hgz6, HSz6_0⟩ := HI0.out
    have hcz6_0 := cellS48_0 HGz6
    have hcz6_1 := cellS48_1 HGz6
    have hfz6_1 := blk_frozen HGz6 1
    clear HGz6 hgz6
    go_enter Try.func36, Try.ntmps36
    go_wp2
    go_ret
    exact ⟨by first | rfl | (simp [errW_none, errW_some] <;> rfl) | (simp [*, errW_none, errW_some] <;> rfl), by repeat (first | (with_reducible first | exact HI0.out | apply IsS48.alloc | apply IsS48.drewN | apply IsS48.drew | apply IsS48.set_1) | exact HI0.out), by repeat (first | (with_reducible first | exact HB.out | apply below_alloc | apply pw_below_drewN | apply below_drew1 | refine below_set ?_ (IsS48.ge HI0.out)) | exact HB.out), by repeat (first | (with_reducible first | exact HK.out | apply KeepBut.set_ | apply keep_drewN | apply keep_drew | apply keep_alloc) | exact HK.out)⟩

-- NOT PRINTED: function 8 (juratlaw04_WireReads)

end Go.Proofs.Ytnkaalapjlmmiaa.PWireReads
