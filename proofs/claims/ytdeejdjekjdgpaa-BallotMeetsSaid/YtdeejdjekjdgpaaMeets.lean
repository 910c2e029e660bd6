/- PROVED: the law BallotMeets: the walk. No condition. -/
import Derived.Test.YtdeejdjekjdgpaaCount
import Derived.Test.YtdeejdjekjdgpaaPBallotHearsx5
import Derived.WalkKit
import Derived.WalkSpells
import Derived.WalkLawsBesides
import Derived.Outline
import Derived.Lib.Hide
import Derived.BigQuiet
import Derived.Deep.QuietTactic
import Derived.Deep.RegionHeld3
import Derived.Deep.LoopGhost
import Derived.Deep.DeepCutAuto
namespace Go.Proofs.Ytdeejdjekjdgpaa.Meets
open Go.RowKit Go.Maps Go.Proofs.Ytdeejdjekjdgpaa.PBallotCounts Go.Proofs.Ytdeejdjekjdgpaa.Count Go.Proofs.YtdeejdjekjdgpaaW.PrintWords Go.Proofs.YtdeejdjekjdgpaaW.PrintLast Go.Proofs.YtdeejdjekjdgpaaW.PrintMore
set_option linter.unusedSimpArgs false
set_option linter.unusedVariables false
theorem info32 : (Try.prog.info? 32).map (fun i => (i.zero, i.size, i.bytes)) = some (some (.agg #[.int .i64 0, .bool false, .int .i64 0, .int .i64 0]), 4, 32) := by kernel_rfl
theorem k32_M {w W : World} {base : Nat} {ok : Nat → Prop} {x : S32} {cs : List Value} (h : k32.K w x cs) : k32.M W base ok x cs := by
  obtain rfl := k32_open h
  exact k32_mkM W base ok x
theorem awk : PBallotHears.juratlaw15_awake.f 1 = some true := by decide +kernel
theorem addI_nodup {a : List Int} (h : a.Nodup) (x : Int) : (addI a x).Nodup := by
  unfold addI
  split
  · exact h
  · rename_i hx
    rw [List.nodup_append]
    refine ⟨h, by simp, fun y hy z hz => ?_⟩
    rw [List.mem_singleton] at hz
    subst hz
    intro e
    subst e
    exact hx hy
theorem seen_fold (n e s : Int) : ∀ (l : List S32) (a : List Int), a.Nodup → (∀ x ∈ a, 0 ≤ x ∧ x < n) → (l.foldl (fun a r => if good n e s r = true then addI a r.f0 else a) a).Nodup ∧
    ∀ x ∈ l.foldl (fun a r => if good n e s r = true then addI a r.f0 else a) a, 0 ≤ x ∧ x < n ∧ (x ∈ a ∨ ∃ p ∈ l, good n e s p = true ∧ p.f0 = x) := by
  intro l
  induction l with
  | nil =>
    intro a h1 h2
    exact ⟨h1, fun x hx => ⟨(h2 x hx).1, (h2 x hx).2, .inl hx⟩⟩
  | cons p l ih =>
    intro a h1 h2
    rw [List.foldl_cons]
    by_cases hg : good n e s p = true
    · rw [if_pos hg]
      have hp : 0 ≤ p.f0 ∧ p.f0 < n := by
        unfold good at hg
        simp only [Bool.and_eq_true, decide_eq_true_eq] at hg
        exact ⟨hg.2.2.2.1, hg.2.2.2.2⟩
      have hm : ∀ x ∈ addI a p.f0, x ∈ a ∨ x = p.f0 := by
        intro x hx
        unfold addI at hx
        split at hx
        · exact .inl hx
        · simpa using hx
      obtain ⟨q1, q2⟩ := ih (addI a p.f0) (addI_nodup h1 _) (fun x hx => by rcases hm x hx with h | rfl; exact h2 x h; exact hp)
      refine ⟨q1, fun x hx => ?_⟩
      obtain ⟨a1, a2, a3⟩ := q2 x hx
      refine ⟨a1, a2, ?_⟩
      rcases a3 with a3 | ⟨q, hq, hq2⟩
      · rcases hm x a3 with h | rfl
        · exact .inl h
        · exact .inr ⟨p, List.mem_cons_self, hg, rfl⟩
      · exact .inr ⟨q, List.mem_cons_of_mem _ hq, hq2⟩
    · rw [if_neg hg]
      obtain ⟨q1, q2⟩ := ih a h1 h2
      refine ⟨q1, fun x hx => ?_⟩
      obtain ⟨a1, a2, a3⟩ := q2 x hx
      refine ⟨a1, a2, ?_⟩
      rcases a3 with a3 | ⟨q, hq, hq2⟩
      · exact .inl a3
      · exact .inr ⟨q, List.mem_cons_of_mem _ hq, hq2⟩
theorem seen_is (n e s : Int) (l : List S32) : (seenOf n e s l).Nodup ∧ ∀ x ∈ seenOf n e s l, 0 ≤ x ∧ x < n ∧ ∃ p ∈ l, good n e s p = true ∧ p.f0 = x := by
  obtain ⟨h1, h2⟩ := seen_fold n e s l [] List.nodup_nil (by simp)
  refine ⟨h1, fun x hx => ?_⟩
  obtain ⟨a1, a2, a3⟩ := h2 x hx
  refine ⟨a1, a2, ?_⟩
  rcases a3 with a3 | a3
  · simp at a3
  · exact a3
/-- So many different numbers below N there are. -/
theorem few : ∀ (N : Nat) (l : List Int), l.Nodup → (∀ x ∈ l, 0 ≤ x ∧ x < (N : Int)) → l.length ≤ N := by
  intro N
  induction N with
  | zero =>
    intro l _ h
    cases l with
    | nil => simp
    | cons x l => have := h x List.mem_cons_self; omega
  | succ N ih =>
    intro l hn h
    have h1 := ih (l.erase (N : Int)) (hn.erase _) (fun x hx => by
      have hx2 := (hn.mem_erase_iff).1 hx
      have := h x hx2.2
      have := hx2.1
      omega)
    by_cases hm : (N : Int) ∈ l
    · rw [List.length_erase_of_mem hm] at h1
      omega
    · rw [List.erase_of_not_mem hm] at h1
      omega
theorem meets {n e s f t : Int} {l m : List S32} (h1 : wonB n (seenOf n e s l).length = true) (h2 : wonB n (seenOf n f t m).length = true) :
    ∃ (i j : Nat) (p q : S32), l[i]? = some p ∧ m[j]? = some q ∧ p.f1 = true ∧ q.f1 = true ∧ p.f0 = q.f0 ∧ p.f2 = e ∧ p.f3 = s ∧ q.f2 = f ∧ q.f3 = t := by
  unfold wonB at h1 h2
  simp only [Bool.and_eq_true, decide_eq_true_eq] at h1 h2
  obtain ⟨n1, s1⟩ := seen_is n e s l
  obtain ⟨n2, s2⟩ := seen_is n f t m
  have hex : ∃ x, x ∈ seenOf n e s l ∧ x ∈ seenOf n f t m := by
    refine Classical.byContradiction fun hno => ?_
    have hd : (seenOf n e s l ++ seenOf n f t m).Nodup := by
      rw [List.nodup_append]
      exact ⟨n1, n2, fun x hx y hy e => hno ⟨x, hx, e ▸ hy⟩⟩
    have := few n.toNat _ hd (fun x hx => by
      rw [List.mem_append] at hx
      rcases hx with hx | hx
      · have := s1 x hx; omega
      · have := s2 x hx; omega)
    rw [List.length_append] at this
    omega
  obtain ⟨x, hx1, hx2⟩ := hex
  obtain ⟨_, _, p, hp, g1, e1⟩ := s1 x hx1
  obtain ⟨_, _, q, hq, g2, e2⟩ := s2 x hx2
  obtain ⟨i, hi⟩ := List.mem_iff_getElem?.1 hp
  obtain ⟨j, hj⟩ := List.mem_iff_getElem?.1 hq
  unfold good at g1 g2
  simp only [Bool.and_eq_true, decide_eq_true_eq, beq_iff_eq] at g1 g2
  exact ⟨i, j, p, q, hi, hj, g1.1, g2.1, e1.trans e2.symm, g1.2.1, g1.2.2.1, g2.2.1, g2.2.2.1⟩
theorem won_at (b : Bool) (A : Option Addr) (cap : Nat) (l : List S32) (n e s : Int) (w : World) (hC : Kd.C k32 w A l.length l) (hcap : l.length ≤ cap) (hl : l.length ≤ 1000) (hwf : ∀ p ∈ l, -9223372036854775808 ≤ p.f0 ∧ p.f0 ≤ 9223372036854775807) (hn : n ≤ 9223372036854775807) (hb : wonB n (seenOf n e s l).length = b) :
    Calls Try.prog 20 #[.slice A l.length cap, .int .i64 n, .int .i64 e, .int .i64 s] w fun r w' => r = .returned (.bool b) ∧ Below w.heap.size w w' := by
  subst hb
  exact won_ok A cap l n e s w hC hcap hl hwf hn
theorem cells32 {w : World} {A : Option Addr} {l : List S32} (h : Kd.C k32 w A l.length l) {k : Nat} {p : S32} (hp : l[k]? = some p) :
    ∃ b off, A = some ⟨b, off, none⟩ ∧ w.cell? ⟨b, off + k * 4, none⟩ = some (.int .i64 p.f0) ∧ w.cell? ⟨b, off + k * 4 + 1, none⟩ = some (.bool p.f1) ∧ w.cell? ⟨b, off + k * 4 + 2, none⟩ = some (.int .i64 p.f2) ∧ w.cell? ⟨b, off + k * 4 + 3, none⟩ = some (.int .i64 p.f3) := by
  have hk : k < l.length := (List.getElem?_eq_some_iff.1 hp).1
  obtain ⟨b, off, rfl, hb, hel⟩ := LRead.C_addr h (by decide) (by omega)
  obtain ⟨c, hc, hK, hcell⟩ := hel k p hp
  obtain rfl := k32_open hK
  exact ⟨b, off, rfl, hcell 0 _ rfl, hcell 1 _ rfl, hcell 2 _ rfl, hcell 3 _ rfl⟩
set_option maxHeartbeats 8000000 in
set_option maxRecDepth 100000 in
theorem meets_walk (A0 : Option Addr) (c0 : Nat) (l : List S32) (A1 : Option Addr) (c1 : Nat) (m : List S32) (n e s f t : Int) (w : World) (hC0 : Kd.C k32 w A0 l.length l) (hc0 : l.length ≤ c0) (hw0 : ∀ p ∈ l, -9223372036854775808 ≤ p.f0 ∧ p.f0 ≤ 9223372036854775807)
    (hC1 : Kd.C k32 w A1 m.length m) (hc1 : m.length ≤ c1) (hw1 : ∀ p ∈ m, -9223372036854775808 ≤ p.f0 ∧ p.f0 ≤ 9223372036854775807) (hn : n ≤ 9223372036854775807) :
    Calls Try.prog 8 #[.slice A0 l.length c0, .slice A1 m.length c1, .int .i64 n, .int .i64 e, .int .i64 s, .int .i64 f, .int .i64 t] w fun r w' => r = .returned (.bool true) ∧ Below w.heap.size w w' := by
  have HC := Lib.hid hC0
  have HW := Lib.hid hw0
  have HC1 := Lib.hid hC1
  have HW1 := Lib.hid hw1
  have hawk := Lib.hid awk
  have HB := Lib.hid (Below.refl w.heap.size w)
  clear hC0 hw0 hC1 hw1
  by_cases q1 : 100 < l.length
  · have q1' : (100 : Int) < l.length := by omega
    go_enter Try.func8, Try.ntmps8
    go_wp2_with (first | ((with_reducible go_at_call 9); go_must (refine (PBallotHears.juratlaw15_awake.calls 1 true _ hawk.out).mono ?_; rintro r w' ⟨rfl, hb⟩; have hb_ := below_step HB.out hb; clear HB; have HB := Lib.hid hb_; clear hb_ hb)))
    go_ret
    exact ⟨rfl, HB.out⟩
  have q1' : (l.length : Int) ≤ 100 := by omega
  by_cases q2 : 100 < m.length
  · have q2' : (100 : Int) < m.length := by omega
    go_enter Try.func8, Try.ntmps8
    go_wp2_with (first | ((with_reducible go_at_call 9); go_must (refine (PBallotHears.juratlaw15_awake.calls 1 true _ hawk.out).mono ?_; rintro r w' ⟨rfl, hb⟩; have hb_ := below_step HB.out hb; clear HB; have HB := Lib.hid hb_; clear hb_ hb)))
    go_ret
    exact ⟨rfl, HB.out⟩
  have q2' : (m.length : Int) ≤ 100 := by omega
  by_cases q3 : 60 < n
  · go_enter Try.func8, Try.ntmps8
    go_wp2_with (first | ((with_reducible go_at_call 9); go_must (refine (PBallotHears.juratlaw15_awake.calls 1 true _ hawk.out).mono ?_; rintro r w' ⟨rfl, hb⟩; have hb_ := below_step HB.out hb; clear HB; have HB := Lib.hid hb_; clear hb_ hb)))
    go_ret
    exact ⟨rfl, HB.out⟩
  have q3' : n ≤ 60 := by omega
  have hl : l.length ≤ 100 := by omega
  have hm : m.length ≤ 100 := by omega
  have hk1 : l.length ≤ 1000 := by omega
  have hk2 : m.length ≤ 1000 := by omega
  clear q1 q2 q3
  obtain ⟨b1, hb1⟩ : ∃ b, wonB n (seenOf n e s l).length = b := ⟨_, rfl⟩
  obtain ⟨b2, hb2⟩ : ∃ b, wonB n (seenOf n f t m).length = b := ⟨_, rfl⟩
  rcases b1 with _ | _
  · have HB1 := Lib.hid hb1
    clear hb1 hb2
    go_enter Try.func8, Try.ntmps8
    go_wp2_with (first | ((with_reducible refine gate_dst (N := 30) rfl ?_); refine Kd.R_lit k32 _ 32 ?hg (N := 30) ?hd (xs := ([] : List S32)) (inner := []) (ok := fun _ => True) (okp := fun _ => True) ?hr ?hp (fun _ hk => hk) trivial (Below.refl _ _) (Nat.le_refl _) (by simp) ?_; (case hd => rfl); (case hg => rfl); (case hr => first | (go_simp; done) | (go_simp; rfl)); (case hp => exact (Reps.none _ _)); intro vL wL hl hb hg_ hn_; have HL := Lib.hid (Kd.R_lower hl HB.out.size); have hb_ := below_step HB.out hb; clear HB; have HB := Lib.hid hb_; clear hb_ hb; clear hl hg_ hn_) | ((with_reducible refine gate_builtin (b := .append) (xs := #[.tmp 30, .tmp 31]) rfl ?_); at_builtin; refine Kd.R_append_rows k32 (w0 := w) w.heap.size rfl (.tmp 30) (.tmp 31) 44 32 (.agg #[.int .i64 0, .bool false, .int .i64 0, .int .i64 0]) 32 rfl Try.underlying44 info32 rfl (by decide) (by omega) vL [] l _ _ _ (fun _ => True) (fun _ => False) rfl rfl HL.out (Kd.C_below HC.out HB.out) (fun x cs h => k32_M h) (fun _ h => h.elim) (fun _ _ => trivial) HB.out HB.out.size ?aL ?_; (case aL => (simp only [List.length_nil]; omega)); intro vA wA ho hb7 hg hat; rw [List.nil_append] at ho; obtain ⟨Ao, co, rfl⟩ := Kd.R_slice ho; have HO := Lib.hid (Kd.R_reads' ho).2.2; have hco := (Kd.R_reads' ho).2.1; clear HB HL; have HB := Lib.hid hb7; clear ho hb7 hg hat) | ((with_reducible go_at_call 20); go_must (refine (won_at false Ao co l n e s _ HO.out hco hk1 HW.out hn HB1.out).mono ?_; rintro r w' ⟨rfl, hb⟩; have hb_ := below_step HB.out hb; clear HB; have HB := Lib.hid hb_; clear hb_ hb)) | ((with_reducible go_at_call 9); go_must (refine (PBallotHears.juratlaw15_awake.calls 1 true _ hawk.out).mono ?_; rintro r w' ⟨rfl, hb⟩; have hb_ := below_step HB.out hb; clear HB; have HB := Lib.hid hb_; clear hb_ hb)))
    go_ret
    exact ⟨rfl, HB.out⟩
  rcases b2 with _ | _
  · have HB1 := Lib.hid hb1
    have HB2 := Lib.hid hb2
    clear hb1 hb2
    go_enter Try.func8, Try.ntmps8
    go_wp2_with (first | ((with_reducible refine gate_dst (N := 30) rfl ?_); refine Kd.R_lit k32 _ 32 ?hg (N := 30) ?hd (xs := ([] : List S32)) (inner := []) (ok := fun _ => True) (okp := fun _ => True) ?hr ?hp (fun _ hk => hk) trivial (Below.refl _ _) (Nat.le_refl _) (by simp) ?_; (case hd => rfl); (case hg => rfl); (case hr => first | (go_simp; done) | (go_simp; rfl)); (case hp => exact (Reps.none _ _)); intro vL wL hl hb hg_ hn_; have HL := Lib.hid (Kd.R_lower hl HB.out.size); have hb_ := below_step HB.out hb; clear HB; have HB := Lib.hid hb_; clear hb_ hb; clear hl hg_ hn_) | ((with_reducible refine gate_builtin (b := .append) (xs := #[.tmp 30, .tmp 31]) rfl ?_); at_builtin; refine Kd.R_append_rows k32 (w0 := w) w.heap.size rfl (.tmp 30) (.tmp 31) 44 32 (.agg #[.int .i64 0, .bool false, .int .i64 0, .int .i64 0]) 32 rfl Try.underlying44 info32 rfl (by decide) (by omega) vL [] l _ _ _ (fun _ => True) (fun _ => False) rfl rfl HL.out (Kd.C_below HC.out HB.out) (fun x cs h => k32_M h) (fun _ h => h.elim) (fun _ _ => trivial) HB.out HB.out.size ?aL ?_; (case aL => (simp only [List.length_nil]; omega)); intro vA wA ho hb7 hg hat; rw [List.nil_append] at ho; obtain ⟨Ao, co, rfl⟩ := Kd.R_slice ho; have HO := Lib.hid (Kd.R_reads' ho).2.2; have hco := (Kd.R_reads' ho).2.1; clear HB HL; have HB := Lib.hid hb7; clear ho hb7 hg hat) | ((with_reducible go_at_call 20); go_must ((first | with_reducible refine (won_at true Ao co l n e s _ HO.out hco hk1 HW.out hn HB1.out).mono ?_ | with_reducible refine (won_at false Ao co m n f t _ HO.out hco hk2 HW1.out hn HB2.out).mono ?_); rintro r w' ⟨rfl, hb⟩; have hb_ := below_step HB.out hb; clear HB; have HB := Lib.hid hb_; clear hb_ hb; clear HO hco)) | ((with_reducible refine gate_dst (N := 39) rfl ?_); (try (refine gate_guard (by rfl) ?_; dsimp only)); refine Kd.R_lit k32 _ 32 ?hg (N := 39) ?hd (xs := ([] : List S32)) (inner := []) (ok := fun _ => True) (okp := fun _ => True) ?hr ?hp (fun _ hk => hk) trivial (Below.refl _ _) (Nat.le_refl _) (by simp) ?_; (case hd => rfl); (case hg => rfl); (case hr => first | (go_simp; done) | (go_simp; rfl)); (case hp => exact (Reps.none _ _)); intro vL wL hl hb hg_ hn_; have HL := Lib.hid (Kd.R_lower hl HB.out.size); have hb_ := below_step HB.out hb; clear HB; have HB := Lib.hid hb_; clear hb_ hb; clear hl hg_ hn_) | ((with_reducible refine gate_builtin (b := .append) (xs := #[.tmp 39, .tmp 40]) rfl ?_); (try (refine gate_guard (by rfl) ?_; dsimp only)); at_builtin; refine Kd.R_append_rows k32 (w0 := w) w.heap.size rfl (.tmp 39) (.tmp 40) 44 32 (.agg #[.int .i64 0, .bool false, .int .i64 0, .int .i64 0]) 32 rfl Try.underlying44 info32 rfl (by decide) (by omega) vL [] m _ _ _ (fun _ => True) (fun _ => False) rfl rfl HL.out (Kd.C_below HC1.out HB.out) (fun x cs h => k32_M h) (fun _ h => h.elim) (fun _ _ => trivial) HB.out HB.out.size ?aL ?_; (case aL => (simp only [List.length_nil]; omega)); intro vA wA ho hb7 hg hat; rw [List.nil_append] at ho; obtain ⟨Ao, co, rfl⟩ := Kd.R_slice ho; have HO := Lib.hid (Kd.R_reads' ho).2.2; have hco := (Kd.R_reads' ho).2.1; clear HB HL; have HB := Lib.hid hb7; clear ho hb7 hg hat) | ((with_reducible go_at_call 9); go_must (refine (PBallotHears.juratlaw15_awake.calls 1 true _ hawk.out).mono ?_; rintro r w' ⟨rfl, hb⟩; have hb_ := below_step HB.out hb; clear HB; have HB := Lib.hid hb_; clear hb_ hb)))
    go_ret
    exact ⟨rfl, HB.out⟩
  obtain ⟨i0, j0, p0, q0, hi0, hj0, hbest⟩ := meets hb1 hb2
  have HB1 := Lib.hid hb1
  have HB2 := Lib.hid hb2
  have HBE := Lib.hid hbest
  have HI := Lib.hid hi0
  have HJ := Lib.hid hj0
  have hil : i0 < l.length := (List.getElem?_eq_some_iff.1 hi0).1
  have hjl : j0 < m.length := (List.getElem?_eq_some_iff.1 hj0).1
  clear hb1 hb2 hbest hi0 hj0
  go_enter Try.func8, Try.ntmps8
  go_upto_region 6 with (first | ((with_reducible refine gate_dst (N := 30) rfl ?_); refine Kd.R_lit k32 _ 32 ?hg (N := 30) ?hd (xs := ([] : List S32)) (inner := []) (ok := fun _ => True) (okp := fun _ => True) ?hr ?hp (fun _ hk => hk) trivial (Below.refl _ _) (Nat.le_refl _) (by simp) ?_; (case hd => rfl); (case hg => rfl); (case hr => first | (go_simp; done) | (go_simp; rfl)); (case hp => exact (Reps.none _ _)); intro vL wL hl hb hg_ hn_; have HL := Lib.hid (Kd.R_lower hl HB.out.size); have hb_ := below_step HB.out hb; clear HB; have HB := Lib.hid hb_; clear hb_ hb; clear hl hg_ hn_) | ((with_reducible refine gate_builtin (b := .append) (xs := #[.tmp 30, .tmp 31]) rfl ?_); at_builtin; refine Kd.R_append_rows k32 (w0 := w) w.heap.size rfl (.tmp 30) (.tmp 31) 44 32 (.agg #[.int .i64 0, .bool false, .int .i64 0, .int .i64 0]) 32 rfl Try.underlying44 info32 rfl (by decide) (by omega) vL [] l _ _ _ (fun _ => True) (fun _ => False) rfl rfl HL.out (Kd.C_below HC.out HB.out) (fun x cs h => k32_M h) (fun _ h => h.elim) (fun _ _ => trivial) HB.out HB.out.size ?aL ?_; (case aL => (simp only [List.length_nil]; omega)); intro vA wA ho hb7 hg hat; rw [List.nil_append] at ho; obtain ⟨Ao, co, rfl⟩ := Kd.R_slice ho; have HO := Lib.hid (Kd.R_reads' ho).2.2; have hco := (Kd.R_reads' ho).2.1; clear HB HL; have HB := Lib.hid hb7; clear ho hb7 hg hat) | ((with_reducible go_at_call 20); go_must ((first | with_reducible refine (won_at true Ao co l n e s _ HO.out hco hk1 HW.out hn HB1.out).mono ?_ | with_reducible refine (won_at true Ao co m n f t _ HO.out hco hk2 HW1.out hn HB2.out).mono ?_); rintro r w' ⟨rfl, hb⟩; have hb_ := below_step HB.out hb; clear HB; have HB := Lib.hid hb_; clear hb_ hb; clear HO hco)) | ((with_reducible refine gate_dst (N := 39) rfl ?_); (try (refine gate_guard (by rfl) ?_; dsimp only)); refine Kd.R_lit k32 _ 32 ?hg (N := 39) ?hd (xs := ([] : List S32)) (inner := []) (ok := fun _ => True) (okp := fun _ => True) ?hr ?hp (fun _ hk => hk) trivial (Below.refl _ _) (Nat.le_refl _) (by simp) ?_; (case hd => rfl); (case hg => rfl); (case hr => first | (go_simp; done) | (go_simp; rfl)); (case hp => exact (Reps.none _ _)); intro vL wL hl hb hg_ hn_; have HL := Lib.hid (Kd.R_lower hl HB.out.size); have hb_ := below_step HB.out hb; clear HB; have HB := Lib.hid hb_; clear hb_ hb; clear hl hg_ hn_) | ((with_reducible refine gate_builtin (b := .append) (xs := #[.tmp 39, .tmp 40]) rfl ?_); (try (refine gate_guard (by rfl) ?_; dsimp only)); at_builtin; refine Kd.R_append_rows k32 (w0 := w) w.heap.size rfl (.tmp 39) (.tmp 40) 44 32 (.agg #[.int .i64 0, .bool false, .int .i64 0, .int .i64 0]) 32 rfl Try.underlying44 info32 rfl (by decide) (by omega) vL [] m _ _ _ (fun _ => True) (fun _ => False) rfl rfl HL.out (Kd.C_below HC1.out HB.out) (fun x cs h => k32_M h) (fun _ h => h.elim) (fun _ _ => trivial) HB.out HB.out.size ?aL ?_; (case aL => (simp only [List.length_nil]; omega)); intro vA wA ho hb7 hg hat; rw [List.nil_append] at ho; obtain ⟨Ao, co, rfl⟩ := Kd.R_slice ho; have HO := Lib.hid (Kd.R_reads' ho).2.2; have hco := (Kd.R_reads' ho).2.1; clear HB HL; have HB := Lib.hid hb7; clear ho hb7 hg hat))
  refine world_gen (P := fun w4 => Below w.heap.size w w4) HB.out (fun w4 h4 => ?_)
  clear HB
  have HB := Lib.hid h4
  clear h4
  go_loopw [15, 16] (fun u15 u16 wr => ∃ k : Nat, u15 = .int .i64 k ∧ k ≤ i0 ∧ Hid (Below w.heap.size w wr)) (fun u15 _ _ => l.length - (intOf u15).toNat)
  case atStart => exact ⟨0, rfl, Nat.zero_le _, HB⟩
  clear HB
  obtain ⟨k, rfl, hk, HB⟩ := hrel
  have hkl : k < l.length := by omega
  have hkl' : (k : Int) < l.length := by omega
  obtain ⟨p, hp⟩ : ∃ p, l[k]? = some p := ⟨_, List.getElem?_eq_getElem hkl⟩
  obtain ⟨b, off, rfl, e0, e1, e2, e3⟩ := cells32 HC.out hp
  have HE := Lib.hid (And.intro e0 (And.intro e1 (And.intro e2 e3)))
  have HP := Lib.hid hp
  clear hp e0 e1 e2 e3
  go_upto_region 9 with (fail)
  obtain ⟨wo, rfl⟩ : ∃ wo : World, wo = wr := ⟨_, rfl⟩
  go_loopw [16] (fun u16 wr => ∃ j : Nat, u16 = .int .i64 j ∧ j ≤ m.length ∧ (k = i0 → j ≤ j0) ∧ Hid (Below w.heap.size w wr)) (fun u16 _ => m.length - (intOf u16).toNat)
  case atStart => exact ⟨0, rfl, Nat.zero_le _, fun _ => Nat.zero_le _, HB⟩
  clear HB
  obtain ⟨j, rfl, hj, hkj, HB⟩ := hrel
  by_cases hjm : j < m.length
  · have hjm' : (j : Int) < m.length := by omega
    obtain ⟨q, hq⟩ : ∃ q, m[j]? = some q := ⟨_, List.getElem?_eq_getElem hjm⟩
    obtain ⟨b', off', rfl, d0, d1, d2, d3⟩ := cells32 HC1.out hq
    have HNO : Hid (k = i0 → j = j0 → p.f1 = true ∧ q.f1 = true ∧ p.f0 = q.f0 ∧ p.f2 = e ∧ p.f3 = s ∧ q.f2 = f ∧ q.f3 = t) := Lib.hid (fun h1 h2 => by
      have h3 := HP.out
      have h4 := HI.out
      rw [h1, h4] at h3
      rw [h2, HJ.out] at hq
      injection h3 with h3
      injection hq with hq
      subst h3
      subst hq
      exact HBE.out)
    obtain ⟨e0, e1, e2, e3⟩ := HE.out
    have e0 := cell_below HB.out e0
    have e1 := cell_below HB.out e1
    have e2 := cell_below HB.out e2
    have e3 := cell_below HB.out e3
    have d0 := cell_below HB.out d0
    have d1 := cell_below HB.out d1
    have d2 := cell_below HB.out d2
    have d3 := cell_below HB.out d3
    clear hq
    have HKJ := Lib.hid hkj
    clear hkj
    obtain ⟨x, g, ep, st⟩ := p
    obtain ⟨x', g', ep', st'⟩ := q
    simp only at e0 e1 e2 e3 d0 d1 d2 d3
    go_upto_region 11 with (fail)
    rcases g with _ | _
    · go_quiet (fail)
      go_wp2
      exact ⟨⟨j + 1, by go_num, by omega, fun h => by have h1 := HKJ.out h; have h2 : j ≠ j0 := (fun h2 => by have h3 := HNO.out h h2; simp_all); omega, Lib.hid (pw_below_drewN HB.out nq)⟩, by simp [intOf]; omega⟩
    rcases g' with _ | _
    · go_quiet (fail)
      go_wp2
      exact ⟨⟨j + 1, by go_num, by omega, fun h => by have h1 := HKJ.out h; have h2 : j ≠ j0 := (fun h2 => by have h3 := HNO.out h h2; simp_all); omega, Lib.hid (pw_below_drewN HB.out nq)⟩, by simp [intOf]; omega⟩
    by_cases hz : x = x'
    rotate_left
    · have hz' : (x == x') = false := by simpa using hz
      go_quiet (fail)
      go_wp2
      exact ⟨⟨j + 1, by go_num, by omega, fun h => by have h1 := HKJ.out h; have h2 : j ≠ j0 := (fun h2 => by have h3 := HNO.out h h2; simp_all); omega, Lib.hid (pw_below_drewN HB.out nq)⟩, by simp [intOf]; omega⟩
    obtain rfl := hz
    by_cases hz : ep = e
    rotate_left
    · have hz' : (ep == e) = false := by simpa using hz
      go_quiet (fail)
      go_wp2
      exact ⟨⟨j + 1, by go_num, by omega, fun h => by have h1 := HKJ.out h; have h2 : j ≠ j0 := (fun h2 => by have h3 := HNO.out h h2; simp_all); omega, Lib.hid (pw_below_drewN HB.out nq)⟩, by simp [intOf]; omega⟩
    obtain rfl := hz
    by_cases hz : st = s
    rotate_left
    · have hz' : (st == s) = false := by simpa using hz
      go_quiet (fail)
      go_wp2
      exact ⟨⟨j + 1, by go_num, by omega, fun h => by have h1 := HKJ.out h; have h2 : j ≠ j0 := (fun h2 => by have h3 := HNO.out h h2; simp_all); omega, Lib.hid (pw_below_drewN HB.out nq)⟩, by simp [intOf]; omega⟩
    obtain rfl := hz
    by_cases hz : ep' = f
    rotate_left
    · have hz' : (ep' == f) = false := by simpa using hz
      go_quiet (fail)
      go_wp2
      exact ⟨⟨j + 1, by go_num, by omega, fun h => by have h1 := HKJ.out h; have h2 : j ≠ j0 := (fun h2 => by have h3 := HNO.out h h2; simp_all); omega, Lib.hid (pw_below_drewN HB.out nq)⟩, by simp [intOf]; omega⟩
    obtain rfl := hz
    by_cases hz : st' = t
    rotate_left
    · have hz' : (st' == t) = false := by simpa using hz
      go_quiet (fail)
      go_wp2
      exact ⟨⟨j + 1, by go_num, by omega, fun h => by have h1 := HKJ.out h; have h2 : j ≠ j0 := (fun h2 => by have h3 := HNO.out h h2; simp_all); omega, Lib.hid (pw_below_drewN HB.out nq)⟩, by simp [intOf]; omega⟩
    obtain rfl := hz
    go_quiet (fail)
    have hb9 := pw_below_drewN HB.out nq
    clear HB
    have HB := Lib.hid hb9
    clear hb9
    go_wp2_with (first | ((with_reducible go_at_call 9); go_must (refine (PBallotHears.juratlaw15_awake.calls 1 true _ hawk.out).mono ?_; rintro r w' ⟨rfl, hb⟩; have hb_ := below_step HB.out hb; clear HB; have HB := Lib.hid hb_; clear hb_ hb)))
    go_ret
    exact ⟨rfl, HB.out⟩
  · have hjm' : (m.length : Int) ≤ j := by omega
    have hne : k ≠ i0 := fun h => by have := hkj h; omega
    clear hkj
    go_wp2
    exact ⟨⟨k + 1, by go_num, by omega, HB⟩, by simp [intOf]; omega⟩
end Go.Proofs.Ytdeejdjekjdgpaa.Meets
