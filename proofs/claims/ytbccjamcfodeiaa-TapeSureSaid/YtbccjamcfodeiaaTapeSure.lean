/- PROVED: the law TapeSure: the walk. No condition beyond what the row opens. -/
import Derived.Test.YtbccjamcfodeiaaTapeS
import Derived.Test.YtbccjamcfodeiaaLRead
import Derived.Test.YtbccjamcfodeiaaWApart
import Derived.Test.YtbccjamcfodeiaaWKept
import Derived.WalkKit
import Derived.WalkSpells
import Derived.WalkLawsBesides
import Derived.WalkMore
import Derived.Outline
import Derived.Lib.Hide
import Derived.BigQuiet
import Derived.Deep.QuietTactic
import Derived.Deep.RegionHeld3
import Derived.Deep.RegionLaw
import Derived.Deep.LoopGhost
import Derived.Deep.DeepCutAuto
namespace Go.Proofs.Ytbccjamcfodeiaa.TapeSure
open Go.RowKit Go.Proofs.Ytbccjamcfodeiaa.PTapePlays Go.Proofs.YtbccjamcfodeiaaW.PrintWords Go.Proofs.YtbccjamcfodeiaaW.PrintLast Go.Proofs.YtbccjamcfodeiaaW.PrintMore
open Go.Proofs.Ytbccjamcfodeiaa.Tape Go.Proofs.Ytbccjamcfodeiaa.Tape2 Go.Proofs.Ytbccjamcfodeiaa.Tape3 Go.Proofs.Ytbccjamcfodeiaa.Tape4 Go.Proofs.Ytbccjamcfodeiaa.Tape5 Go.Proofs.Ytbccjamcfodeiaa.Tape6 Go.Proofs.Ytbccjamcfodeiaa.Tape7 Go.Proofs.Ytbccjamcfodeiaa.Tape8 Go.Proofs.Ytbccjamcfodeiaa.Tape9
open Go.Proofs.Ytbccjamcfodeiaa.TapeW Go.Proofs.Ytbccjamcfodeiaa.TapeF Go.Proofs.Ytbccjamcfodeiaa.TapeP Go.Proofs.Ytbccjamcfodeiaa.TapeP2
open Go.Proofs.Ytbccjamcfodeiaa.TapeS
set_option linter.unusedSimpArgs false
set_option linter.unusedVariables false
set_option maxHeartbeats 4000000 in
set_option maxRecDepth 100000 in
theorem sure_walk (A : Option Addr) (cap : Nat) (l : List S45) (file : Int) (B : Option Addr) (capb : Nat) (more : List (List Int)) (K : Option Addr) (capk : Nat) (ks : List Int) (w : World) (hC : Kd.C k45 w A l.length l) (hcap : l.length ≤ cap) (hok : ∀ x ∈ l, okC x)
    (hCB : Kd.C (Kd.slice 5 (Kd.int .u8)) w B more.length more) (hcapb : more.length ≤ capb) (hokb : ∀ t ∈ more, ∀ x ∈ t, 0 ≤ x ∧ x < 256) (hCK : Kd.C (Kd.int .i64) w K ks.length ks) (hcapk : ks.length ≤ capk) :
    Calls Try.prog 4 #[.slice A l.length cap, .int .i64 file, .slice B more.length capb, .slice K ks.length capk] w fun e w' => e = .returned (.bool true) ∧ Below w.heap.size w w' := by
  have HB := Lib.hid (Below.refl w.heap.size w)
  have HC := Lib.hid hC
  have HOK := Lib.hid hok
  have HCB := Lib.hid hCB
  have HOB := Lib.hid hokb
  have HCK := Lib.hid hCK
  obtain ⟨lb, hlb, hsh⟩ := long_f l
  have HLB := Lib.hid hlb
  have HSH := Lib.hid hsh
  clear hC hok hCB hokb hCK hlb hsh
  rcases lb with _ | _
  rotate_left
  · go_enter Try.func4, Try.ntmps4
    go_wp2_with (first | ((with_reducible go_at_call 15); go_must (refine (long_t l _ A cap _ HLB.out (Kd.C_below HC.out HB.out) hcap).mono ?_; rintro e w1 ⟨rfl, hb⟩; have hb_ := below_step HB.out hb; clear HB; have HB := Lib.hid hb_; clear hb_ hb)) | ((with_reducible go_at_call 10); (have q_ := hi0; clear q_); go_must (refine (is_yes _ _ hi0 hi4).mono ?_; rintro e w' ⟨rfl, rfl⟩)) | ((with_reducible go_at_call 10); (have q_ := hno; clear q_); go_must (refine (is_no _ _ hno).mono ?_; rintro e w' ⟨rfl, rfl⟩)) | ((with_reducible go_at_call 11); go_must (refine (awake_ok _).mono ?_; rintro e w1 ⟨rfl, hb⟩; have hb_ := below_step HB.out hb; clear HB; have HB := Lib.hid hb_; clear hb_ hb)))
    go_ret
    exact ⟨rfl, HB.out⟩
  have hsh := HSH.out rfl
  clear HSH
  have HSH := Lib.hid hsh
  have hl60 := hsh.1
  clear hsh
  by_cases q1 : 20 < more.length
  · have q1I : (20 : Int) < more.length := by omega
    go_enter Try.func4, Try.ntmps4
    go_wp2_with (first | ((with_reducible go_at_call 15); go_must (refine (long_t l _ A cap _ HLB.out (Kd.C_below HC.out HB.out) hcap).mono ?_; rintro e w1 ⟨rfl, hb⟩; have hb_ := below_step HB.out hb; clear HB; have HB := Lib.hid hb_; clear hb_ hb)) | ((with_reducible go_at_call 10); (have q_ := hi0; clear q_); go_must (refine (is_yes _ _ hi0 hi4).mono ?_; rintro e w' ⟨rfl, rfl⟩)) | ((with_reducible go_at_call 10); (have q_ := hno; clear q_); go_must (refine (is_no _ _ hno).mono ?_; rintro e w' ⟨rfl, rfl⟩)) | ((with_reducible go_at_call 11); go_must (refine (awake_ok _).mono ?_; rintro e w1 ⟨rfl, hb⟩; have hb_ := below_step HB.out hb; clear HB; have HB := Lib.hid hb_; clear hb_ hb)))
    go_ret
    exact ⟨rfl, HB.out⟩
  by_cases q2 : 10 < ks.length
  · have q1I : (more.length : Int) ≤ 20 := by omega
    have q2I : (10 : Int) < ks.length := by omega
    go_enter Try.func4, Try.ntmps4
    go_wp2_with (first | ((with_reducible go_at_call 15); go_must (refine (long_t l _ A cap _ HLB.out (Kd.C_below HC.out HB.out) hcap).mono ?_; rintro e w1 ⟨rfl, hb⟩; have hb_ := below_step HB.out hb; clear HB; have HB := Lib.hid hb_; clear hb_ hb)) | ((with_reducible go_at_call 10); (have q_ := hi0; clear q_); go_must (refine (is_yes _ _ hi0 hi4).mono ?_; rintro e w' ⟨rfl, rfl⟩)) | ((with_reducible go_at_call 10); (have q_ := hno; clear q_); go_must (refine (is_no _ _ hno).mono ?_; rintro e w' ⟨rfl, rfl⟩)) | ((with_reducible go_at_call 11); go_must (refine (awake_ok _).mono ?_; rintro e w1 ⟨rfl, hb⟩; have hb_ := below_step HB.out hb; clear HB; have HB := Lib.hid hb_; clear hb_ hb)))
    go_ret
    exact ⟨rfl, HB.out⟩
  have q1I : (more.length : Int) ≤ 20 := by omega
  have q2I : (ks.length : Int) ≤ 10 := by omega
  by_cases hno : ¬ (0 ≤ file ∧ file < 4)
  · go_enter Try.func4, Try.ntmps4
    go_wp2_with (first | ((with_reducible go_at_call 15); go_must (refine (long_t l _ A cap _ HLB.out (Kd.C_below HC.out HB.out) hcap).mono ?_; rintro e w1 ⟨rfl, hb⟩; have hb_ := below_step HB.out hb; clear HB; have HB := Lib.hid hb_; clear hb_ hb)) | ((with_reducible go_at_call 10); (have q_ := hi0; clear q_); go_must (refine (is_yes _ _ hi0 hi4).mono ?_; rintro e w' ⟨rfl, rfl⟩)) | ((with_reducible go_at_call 10); (have q_ := hno; clear q_); go_must (refine (is_no _ _ hno).mono ?_; rintro e w' ⟨rfl, rfl⟩)) | ((with_reducible go_at_call 11); go_must (refine (awake_ok _).mono ?_; rintro e w1 ⟨rfl, hb⟩; have hb_ := below_step HB.out hb; clear HB; have HB := Lib.hid hb_; clear hb_ hb)))
    go_ret
    exact ⟨rfl, HB.out⟩
  have hi0 : 0 ≤ file := by omega
  have hi4 : file < 4 := by omega
  clear hno q1 q2
  obtain ⟨i, rfl⟩ := Int.eq_ofNat_of_zero_le hi0
  have hi : i < 4 := by omega
  have hE := ever_play l ever_new
  have hF := play_fine l newS_good HOK.out HSH.out.2
  obtain ⟨s0, hs0⟩ : ∃ s, playS l newS = s := ⟨_, rfl⟩
  have HS0 := Lib.hid hs0
  rw [hs0] at hE hF
  clear hs0
  have HF0 : Hid (Fine 31000 s0) := Lib.hid (hF.mono (by omega))
  obtain ⟨s1, hs1, hr1, hI⟩ := sure_start hE hi
  obtain ⟨was, hwas⟩ : ∃ x, s1.sure i = x := ⟨_, rfl⟩
  rw [hwas] at hr1 hI
  have HF1 : Hid (Fine 31000 s1) := Lib.hid (by have h := syncS_good HF0.out (i : Int); rw [hs1] at h; exact h)
  have hwl := read_len HF1.out hi hr1
  have HX1 := Lib.hid hs1
  have HX2 := Lib.hid hr1
  have HI := Lib.hid hI
  clear hE hF hs1 hr1 hI hwas
  go_enter Try.func4, Try.ntmps4
  go_upto_region 7 with (first | ((with_reducible go_at_call 15); go_must (refine (long_t l _ A cap _ HLB.out (Kd.C_below HC.out HB.out) hcap).mono ?_; rintro e w1 ⟨rfl, hb⟩; have hb_ := below_step HB.out hb; clear HB; have HB := Lib.hid hb_; clear hb_ hb)) | ((with_reducible go_at_call 10); (have q_ := hi0; clear q_); go_must (refine (is_yes _ _ hi0 hi4).mono ?_; rintro e w' ⟨rfl, rfl⟩)) | ((with_reducible go_at_call 16); go_must (refine (played_y A cap l _ (Kd.C_below HC.out HB.out) hcap HOK.out HSH.out).mono ?_; rintro e w1 ⟨r, rfl, hy, hb⟩; rw [HS0.out] at hy; have HY1 := Lib.hid (Apt.lower hy HB.out.size); clear hy; have hb_ := below_step HB.out hb; clear HB; have HB := Lib.hid hb_; clear hb_ hb)) | ((with_reducible go_at_call 17); (have q_ := HY1; clear q_); go_must (refine (sync_z w.heap.size [tape r s0] [tape r s1] 0 1 r 31000 s0 s1 i 0 _ HY1.out rfl HF0.out (by decide) HB.out.size HX1.out rfl).mono ?_; rintro e w1 ⟨rfl, hy, hb⟩; have HY2 : Hid (Apt w.heap.size w1 ([tape r s1])) := Lib.hid hy; clear HY1 hy; have hb_ := HB.out.trans hb; clear HB; have HB := Lib.hid hb_; clear hb_ hb)) | ((with_reducible go_at_call 14); (have q_ := HY2; clear q_); go_must (refine (read_z w.heap.size ([tape r s1]) 0 r _ s1 i 0 was _ HY2.out rfl HF1.out HB.out.size HX2.out).mono ?_; rintro e w1 ⟨A1, c1, rfl, hy, hb⟩; have HY3 : Hid (Apt w.heap.size w1 ([tape r s1] ++ [row (.slice A1 was.length c1) was])) := Lib.hid hy; clear HY2 hy; have hb_ := below_step HB.out hb; clear HB; have HB := Lib.hid hb_; clear hb_ hb)))
  go_loopw [13] (fun u13 wr => ∃ (k : Nat) (s : TS), u13 = .int .i64 k ∧ k ≤ more.length ∧ Hid (Apt w.heap.size wr ([tape r s] ++ [row (.slice A1 was.length c1) was])) ∧ Hid (Below w.heap.size w wr) ∧ Hid (Fine (31000 + 500 * k) s) ∧ Hid (SInv i was s)) (fun u13 _ => more.length - (intOf u13).toNat)
  case atStart => exact ⟨0, s1, rfl, Nat.zero_le _, HY3, HB, HF1, HI⟩
  clear HY3 HB HF1 HI HF0 HX1 HX2 HS0
  obtain ⟨k, s, rfl, hk, HY3, HB, HF, HI⟩ := hrel
  by_cases hlt : k < more.length
  · have hlt' : (k : Int) < more.length := by omega
    obtain ⟨t, ht⟩ : ∃ t, more[k]? = some t := ⟨_, List.getElem?_eq_getElem hlt⟩
    obtain ⟨b, off, A3, c3, rfl, e0, hc3, hC3⟩ := text_in HCB.out ht
    have e0 := cell_b HB.out e0
    have HBY := Lib.hid (HOB.out t (List.mem_of_getElem? ht))
    have HC3 := Lib.hid (Kd.C_below hC3 HB.out)
    clear hC3 ht
    by_cases h5 : 500 < t.length
    · have h5' : (500 : Int) < t.length := by omega
      go_wp2_with (first | ((with_reducible go_at_call 11); go_must (refine (awake_ok _).mono ?_; rintro e w1 ⟨rfl, hb⟩; have hb_ := below_step HB.out hb; clear HB; have HB := Lib.hid hb_; clear hb_ hb)))
      go_ret
      exact ⟨rfl, HB.out⟩
    · have h5' : (t.length : Int) ≤ 500 := by omega
      obtain ⟨ka, sa, hx, hIa⟩ := sure_step hi HI.out t
      have HFa := Lib.hid (appS_good HF.out i t HBY.out)
      have HX := Lib.hid hx
      have HIa := Lib.hid hIa
      clear hx hIa
      go_wp2_with (first | ((with_reducible go_at_call 18); (have q_ := HY3; clear q_); go_must (refine (own_z w.heap.size ([tape r s] ++ [row (.slice A1 was.length c1) was]) A3 c3 t _ HY3.out HC3.out hc3 (by omega) HB.out.size).mono ?_; rintro e w1 ⟨Ao, co, rfl, hy, hb⟩; have HY4 : Hid (Apt w.heap.size w1 ([tape r s] ++ [row (.slice A1 was.length c1) was] ++ [row (.slice Ao t.length co) t])) := Lib.hid hy; clear HY3 HC3 hy; have hb_ := below_step HB.out hb; clear HB; have HB := Lib.hid hb_; clear hb_ hb)) | ((with_reducible go_at_call 13); (have q_ := HY4; clear q_); go_must (refine (app_z w.heap.size ([tape r s] ++ [row (.slice A1 was.length c1) was] ++ [row (.slice Ao t.length co) t]) ([tape r sa] ++ [row (.slice A1 was.length c1) was]) 0 2 2 r (31000 + 500 * k) t.length s sa i ka Ao co t _ HY4.out rfl rfl (by decide) rfl HF.out (by omega) (by omega) HBY.out HB.out.size HX.out rfl).mono ?_; rintro e w1 ⟨rfl, hy, hb⟩; have HY5 : Hid (Apt w.heap.size w1 ([tape r sa] ++ [row (.slice A1 was.length c1) was])) := Lib.hid hy; clear HY4 hy; have hb_ := HB.out.trans hb; clear HB; have HB := Lib.hid hb_; clear hb_ hb)))
      exact ⟨⟨k + 1, sa, by go_num, by omega, HY5, HB, Lib.hid (by have h := HFa.out; rw [HX.out] at h; exact h.mono (by omega)), HIa⟩, by simp [intOf]; omega⟩
  · have hlt' : (more.length : Int) ≤ k := by omega
    obtain ⟨all, bs, hr1, hr2, ht1, ht2, hl1, hl2⟩ := sure_end hi HI.out ks
    have hll := read_len HF.out hi hr1
    have HFc := Lib.hid (crashS_good HF.out ks)
    have HX1 := Lib.hid hr1
    have HX2 := Lib.hid hr2
    have HT1 := Lib.hid ht1
    have HT2 := Lib.hid ht2
    have hl1I : (was.length : Int) ≤ bs.length := by omega
    have hl2I : (bs.length : Int) ≤ all.length := by omega
    clear hr1 hr2 ht1 ht2
    go_wp2_with (first | ((with_reducible go_at_call 14); (have q_ := HY3; clear q_); go_must (refine (read_z w.heap.size ([tape r s] ++ [row (.slice A1 was.length c1) was]) 0 r _ s i 0 all _ HY3.out rfl HF.out HB.out.size HX1.out).mono ?_; rintro e w1 ⟨A2, c2, rfl, hy, hb⟩; have HY4 : Hid (Apt w.heap.size w1 ([tape r s] ++ [row (.slice A1 was.length c1) was] ++ [row (.slice A2 all.length c2) all])) := Lib.hid hy; clear HY3 hy; have hb_ := below_step HB.out hb; clear HB; have HB := Lib.hid hb_; clear hb_ hb)) | ((with_reducible refine gate_dst (N := 76) rfl ?_); (have q_ := HY4; clear q_); refine Kd.R_lit (Kd.int .i64) _ 3 ?hg (N := 76) ?hd (xs := ([] : List (Int))) (inner := []) (ok := fun _ => True) (okp := fun _ => True) ?hr ?hp (fun _ hk => hk) trivial (Below.refl _ _) (Nat.le_refl _) (by simp) ?_; (case hd => rfl); (case hg => rfl); (case hr => first | (go_simp; done) | (go_simp; rfl)); (case hp => exact (Reps.none _ _)); intro vL wL hl hb hg_ hn_; clear hg_ hn_; have HL := Lib.hid hl; have HBL := Lib.hid hb; clear hl hb) | ((with_reducible refine gate_builtin (b := .append) (xs := #[.tmp 76, .tmp 77]) rfl ?_); at_builtin; go_must (refine Kd.R_append_rows (Kd.int .i64) (w0 := _) (_) rfl (.tmp 76) (.tmp 77) 34 3 (.int .i64 0) 8 rfl Try.underlying34 info3 rfl (by decide) (by omega) (vL) ([]) (ks) _ _ _ (fun _ => True) (fun _ => False) rfl rfl (HL.out) (Kd.C_below HCK.out (below_step HB.out HBL.out)) (fun x cs h => h) (fun _ h => h.elim) (fun _ _ => trivial) HBL.out HBL.out.size ?aL ?_; (case aL => (simp; omega)); intro vA wA ho hb hg hat; rw [List.nil_append] at ho; obtain ⟨AK, cK, rfl⟩ := Kd.R_slice ho; have HK := Lib.hid (Kd.R_reads' ho); have HY5 : Hid (Apt w.heap.size wA ([tape r s] ++ [row (.slice A1 was.length c1) was] ++ [row (.slice A2 all.length c2) all])) := Lib.hid (Apt.below HY4.out hb); clear HY4 HL HBL ho hg hat; have hb_ := below_step HB.out hb; clear HB; have HB := Lib.hid hb_; clear hb_ hb)) | ((with_reducible go_at_call 19); (have q_ := HY5; clear q_); go_must (refine (crash_z w.heap.size ([tape r s] ++ [row (.slice A1 was.length c1) was] ++ [row (.slice A2 all.length c2) all]) 0 r _ ks.length s (crashS s ks) AK cK ks _ HY5.out rfl HF.out (by omega) rfl HK.out.2.2 HK.out.2.1 (by omega) HB.out.size rfl).mono ?_; rintro e w1 ⟨r2, rfl, hy, hb⟩; have HY6 : Hid (Apt w.heap.size w1 ([tape r s] ++ [row (.slice A1 was.length c1) was] ++ [row (.slice A2 all.length c2) all] ++ [tape r2 (crashS s ks)])) := Lib.hid hy; clear HY5 hy HK; have hb_ := below_step HB.out hb; clear HB; have HB := Lib.hid hb_; clear hb_ hb)) | ((with_reducible go_at_call 14); (have q_ := HY6; clear q_); go_must (refine (read_z w.heap.size ([tape r s] ++ [row (.slice A1 was.length c1) was] ++ [row (.slice A2 all.length c2) all] ++ [tape r2 (crashS s ks)]) 3 r2 _ (crashS s ks) i 0 bs _ HY6.out rfl HFc.out HB.out.size HX2.out).mono ?_; rintro e w1 ⟨A4, c4, rfl, hy, hb⟩; have hq1 : (was.length : Int) ≤ c4 := (by have h7 := (reads_at hy (i := 4) rfl).1; omega); have hq2 : (bs.length : Int) ≤ c2 := (by have h7 := (reads_at hy (i := 2) rfl).1; omega); have HY7 : Hid (Apt w.heap.size w1 ([tape r s] ++ [row (.slice A1 was.length c1) was] ++ [row (.slice A2 all.length c2) all] ++ [tape r2 (crashS s ks)] ++ [row (.slice A4 bs.length c4) bs])) := Lib.hid hy; clear HY6 hy; have hb_ := below_step HB.out hb; clear HB; have HB := Lib.hid hb_; clear hb_ hb)) | ((with_reducible go_at_call 20); (have q_ := HY7; clear q_); go_must (refine (same_y A4 A1 was.length was.length c4 c1 was was _ rfl rfl (by have h := C_tkB (reads_at HY7.out (i := 4) rfl).2 hl1; rwa [HT1.out] at h) (by have h7 := (reads_at HY7.out (i := 4) rfl).1; omega) (reads_at HY7.out (i := 1) rfl).2 (reads_at HY7.out (i := 1) rfl).1 (by omega)).mono ?_; rintro e w1 ⟨he, hb⟩; rw [decide_eq_true rfl] at he; subst he; have HY8 : Hid (Apt w.heap.size w1 ([tape r s] ++ [row (.slice A1 was.length c1) was] ++ [row (.slice A2 all.length c2) all] ++ [tape r2 (crashS s ks)] ++ [row (.slice A4 bs.length c4) bs])) := Lib.hid (Apt.below HY7.out hb); clear HY7; have hb_ := below_step HB.out hb; clear HB; have HB := Lib.hid hb_; clear hb_ hb)) | ((with_reducible go_at_call 20); (have q_ := HY8; clear q_); go_must (refine (same_y A4 A2 bs.length bs.length c4 c2 bs bs _ rfl rfl (reads_at HY8.out (i := 4) rfl).2 (reads_at HY8.out (i := 4) rfl).1 (by have h := C_tkB (reads_at HY8.out (i := 2) rfl).2 hl2; rwa [HT2.out] at h) (by have h7 := (reads_at HY8.out (i := 2) rfl).1; omega) (by omega)).mono ?_; rintro e w1 ⟨he, hb⟩; rw [decide_eq_true rfl] at he; subst he; have HY9 : Hid (Apt w.heap.size w1 ([tape r s] ++ [row (.slice A1 was.length c1) was] ++ [row (.slice A2 all.length c2) all] ++ [tape r2 (crashS s ks)] ++ [row (.slice A4 bs.length c4) bs])) := Lib.hid (Apt.below HY8.out hb); clear HY8; have hb_ := below_step HB.out hb; clear HB; have HB := Lib.hid hb_; clear hb_ hb)) | ((with_reducible go_at_call 11); go_must (refine (awake_ok _).mono ?_; rintro e w1 ⟨rfl, hb⟩; have hb_ := below_step HB.out hb; clear HB; have HB := Lib.hid hb_; clear hb_ hb)))
    go_ret
    exact ⟨rfl, HB.out⟩
end Go.Proofs.Ytbccjamcfodeiaa.TapeSure
