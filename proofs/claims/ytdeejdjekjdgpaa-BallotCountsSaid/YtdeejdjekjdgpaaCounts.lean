/- PROVED: the law BallotCounts: the walk. No condition. -/
import Derived.Test.YtdeejdjekjdgpaaCount
import Derived.Test.YtdeejdjekjdgpaaPBallotHearsx5
import Derived.WalkKit
import Derived.WalkSpells
import Derived.WalkLawsBesides
import Derived.Outline
import Derived.Lib.Hide
import Derived.BigQuiet
import Derived.Deep.QuietTactic
import Derived.Deep.RegionHeld3
import Derived.Deep.LoopGhost
import Derived.Deep.DeepCutAuto
namespace Go.Proofs.Ytdeejdjekjdgpaa.Counts
open Go.RowKit Go.Maps Go.Proofs.Ytdeejdjekjdgpaa.PBallotCounts Go.Proofs.Ytdeejdjekjdgpaa.Count Go.Proofs.YtdeejdjekjdgpaaW.PrintWords Go.Proofs.YtdeejdjekjdgpaaW.PrintLast Go.Proofs.YtdeejdjekjdgpaaW.PrintMore
set_option linter.unusedSimpArgs false
set_option linter.unusedVariables false
theorem info32 : (Try.prog.info? 32).map (fun i => (i.zero, i.size, i.bytes)) = some (some (.agg #[.int .i64 0, .bool false, .int .i64 0, .int .i64 0]), 4, 32) := by kernel_rfl
theorem k32_M {w W : World} {base : Nat} {ok : Nat → Prop} {x : S32} {cs : List Value} (h : k32.K w x cs) : k32.M W base ok x cs := by
  obtain rfl := k32_open h
  exact k32_mkM W base ok x
theorem awk : PBallotHears.juratlaw15_awake.f 1 = some true := by decide +kernel
set_option maxHeartbeats 4000000 in
set_option maxRecDepth 100000 in
theorem counts_walk (A : Option Addr) (cap : Nat) (l : List S32) (n e s : Int) (w : World) (hC : Kd.C k32 w A l.length l) (hcap : l.length ≤ cap) (hwf : ∀ p ∈ l, -9223372036854775808 ≤ p.f0 ∧ p.f0 ≤ 9223372036854775807) (hn : n ≤ 9223372036854775807) :
    Calls Try.prog 7 #[.slice A l.length cap, .int .i64 n, .int .i64 e, .int .i64 s] w fun r w' => r = .returned (.bool true) ∧ Below w.heap.size w w' := by
  have HC := Lib.hid hC
  have HW := Lib.hid hwf
  have hawk := Lib.hid awk
  have HB := Lib.hid (Below.refl w.heap.size w)
  clear hC hwf
  by_cases c1 : 100 < l.length
  · have c1' : (100 : Int) < l.length := by omega
    go_enter Try.func7, Try.ntmps7
    go_wp2_with (first | ((with_reducible go_at_call 9); go_must (refine (PBallotHears.juratlaw15_awake.calls 1 true _ hawk.out).mono ?_; rintro r w' ⟨rfl, hb⟩; have hb_ := below_step HB.out hb; clear HB; have HB := Lib.hid hb_; clear hb_ hb)))
    go_ret
    exact ⟨rfl, HB.out⟩
  have h100 : l.length ≤ 100 := by omega
  have hk1 : l.length ≤ 1000 := by omega
  have c1' : (l.length : Int) ≤ 100 := by omega
  clear c1
  go_enter Try.func7, Try.ntmps7
  go_wp2_with (first | ((with_reducible refine gate_dst (N := 14) rfl ?_); refine Kd.R_lit k32 _ 32 ?hg (N := 14) ?hd (xs := ([] : List S32)) (inner := []) (ok := fun _ => True) (okp := fun _ => True) ?hr ?hp (fun _ hk => hk) trivial (Below.refl _ _) (Nat.le_refl _) (by simp) ?_; (case hd => rfl); (case hg => rfl); (case hr => first | (go_simp; done) | (go_simp; rfl)); (case hp => exact (Reps.none _ _)); intro vL wL hl hb hg_ hn_; have HL := Lib.hid (Kd.R_lower hl HB.out.size); have hb_ := below_step HB.out hb; clear HB; have HB := Lib.hid hb_; clear hb_ hb; clear hl hg_ hn_) | ((with_reducible refine gate_builtin (b := .append) (xs := #[.tmp 14, .tmp 15]) rfl ?_); at_builtin; refine Kd.R_append_rows k32 (w0 := w) w.heap.size rfl (.tmp 14) (.tmp 15) 44 32 (.agg #[.int .i64 0, .bool false, .int .i64 0, .int .i64 0]) 32 rfl Try.underlying44 info32 rfl (by decide) (by omega) vL [] l _ _ _ (fun _ => True) (fun _ => False) rfl rfl HL.out (Kd.C_below HC.out HB.out) (fun x cs h => k32_M h) (fun _ h => h.elim) (fun _ _ => trivial) HB.out HB.out.size ?aL ?_; (case aL => (simp only [List.length_nil]; omega)); intro vA wA ho hb7 hg hat; rw [List.nil_append] at ho; obtain ⟨Ao, co, rfl⟩ := Kd.R_slice ho; have HO := Lib.hid (Kd.R_reads' ho).2.2; have hco := (Kd.R_reads' ho).2.1; clear HB HL; have HB := Lib.hid hb7; clear ho hb7 hg hat) | ((with_reducible go_at_call 18); go_must (refine (count_ok Ao co l n e s _ HO.out hco hk1 HW.out).mono ?_; rintro r w' ⟨rfl, hb⟩; have ho_ := Kd.C_below HO.out hb; clear HO; have HO := Lib.hid ho_; clear ho_; have hb_ := below_step HB.out hb; clear HB; have HB := Lib.hid hb_; clear hb_ hb)) | ((with_reducible go_at_call 19); go_must (refine (ref_ok A cap l n e s _ (Kd.C_below HC.out HB.out) hcap hk1).mono ?_; rintro r w' ⟨rfl, hb⟩; have ho_ := Kd.C_below HO.out hb; clear HO; have HO := Lib.hid ho_; clear ho_; have hb_ := below_step HB.out hb; clear HB; have HB := Lib.hid hb_; clear hb_ hb)) | ((with_reducible go_at_call 20); go_must (refine (won_ok Ao co l n e s _ HO.out hco hk1 HW.out hn).mono ?_; rintro r w' ⟨rfl, hb⟩; have ho_ := Kd.C_below HO.out hb; clear HO; have HO := Lib.hid ho_; clear ho_; have hb_ := below_step HB.out hb; clear HB; have HB := Lib.hid hb_; clear hb_ hb)) | ((with_reducible go_at_call 21); go_must (refine (refWon_ok A cap l n e s _ (Kd.C_below HC.out HB.out) hcap hk1 hn).mono ?_; rintro r w' ⟨rfl, hb⟩; have ho_ := Kd.C_below HO.out hb; clear HO; have HO := Lib.hid ho_; clear ho_; have hb_ := below_step HB.out hb; clear HB; have HB := Lib.hid hb_; clear hb_ hb)) | ((with_reducible go_at_call 9); go_must (refine (PBallotHears.juratlaw15_awake.calls 1 true _ hawk.out).mono ?_; rintro r w' ⟨rfl, hb⟩; have ho_ := Kd.C_below HO.out hb; clear HO; have HO := Lib.hid ho_; clear ho_; have hb_ := below_step HB.out hb; clear HB; have HB := Lib.hid hb_; clear hb_ hb)))
  go_ret
  exact ⟨rfl, HB.out⟩
end Go.Proofs.Ytdeejdjekjdgpaa.Counts
