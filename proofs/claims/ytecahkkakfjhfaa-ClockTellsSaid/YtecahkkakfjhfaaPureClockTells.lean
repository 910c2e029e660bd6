/- PROVED: the law ClockTells of the printed functions: what a clock shows, and how long leases are safe, and last, is the reference's, or the error. No condition beyond the statement's own bounds. -/
import Derived.Test.YtecahkkakfjhfaaPClockTellsx1
namespace Go.Proofs.Ytecahkkakfjhfaa.Pure
open Go.RowKit Go.Proofs.Ytecahkkakfjhfaa.PClockTells Go.Proofs.YtecahkkakfjhfaaW.PrintWords Go.Proofs.YtecahkkakfjhfaaW.PrintLast

theorem w01 : wrap64 (0 + 1) = 1 := by unfold wrap64; omega
theorem w12 : wrap64 (1 + 1) = 2 := by unfold wrap64; omega
theorem w23 : wrap64 (2 + 1) = 3 := by unfold wrap64; omega
theorem bd {a : Int} (h : (Lit.int .i64 a).wf = true) : -9223372036854775808 ≤ a ∧ a ≤ 9223372036854775807 := by
  simp [Lit.wf, IntKind.min, IntKind.max, IntKind.signed, IntKind.bits] at h
  omega
theorem w_in {n : Int} (h : -9223372036854775808 ≤ n) (h' : n ≤ 9223372036854775807) : wrap64 n = n := by
  unfold wrap64
  omega
def bad (b : S37) : Bool := decide (b.f0 < b.f1) || decide (b.f0 > b.f2)
theorem bad_true {b : S37} (h : b.f0 < b.f1 ∨ b.f0 > b.f2) : bad b = true := by
  unfold bad
  simpa using h
theorem bad_false {b : S37} (h : b.f1 ≤ b.f0) (h' : b.f0 ≤ b.f2) : bad b = false := by
  unfold bad
  simp
  omega
theorem out_hit (k : Nat) (l : List S37) (i : Int) (n : Int) (b : S37) (hi : i < n) (h0 : 0 ≤ i) (hl : i < (l.length : Int)) (hb : rd_T37 l i = b) (h : bad b = true) : clock_out.l0 (k + 1) l n i = some true := by
  simp only [clock_out.l0]
  rw [if_pos hi, if_pos h0, if_pos hl, hb]
  unfold bad at h
  by_cases c : b.f0 < b.f1
  · rw [if_pos c]
  · rw [if_neg c, if_pos (by simpa [c] using h)]
theorem out_miss (k : Nat) (l : List S37) (i : Int) (n : Int) (b : S37) (hi : i < n) (h0 : 0 ≤ i) (hl : i < (l.length : Int)) (hb : rd_T37 l i = b) (h : bad b = false) : clock_out.l0 (k + 1) l n i = clock_out.l0 k l n (wrap64 (i + 1)) := by
  rw [clock_out.l0]
  rw [if_pos hi, if_pos h0, if_pos hl, hb]
  unfold bad at h
  simp at h
  rw [if_neg (by omega), if_neg (by omega)]
theorem out_end (k : Nat) (l : List S37) (i : Int) (n : Int) (hi : ¬ i < n) : clock_out.l0 (k + 1) l n i = some false := by
  simp only [clock_out.l0]
  rw [if_neg hi]
theorem out3 (k : Nat) (a b c : S37) : clock_out.f (k + 4) [a, b, c] = some (bad a || bad b || bad c) := by
  unfold clock_out.f
  cases ha : bad a with
  | true => rw [out_hit (k + 3) _ 0 _ a (by simp) (by omega) (by simp) rfl ha]; simp
  | false =>
    rw [out_miss (k + 3) _ 0 _ a (by simp) (by omega) (by simp) rfl ha, w01]
    cases hb : bad b with
    | true => rw [out_hit (k + 2) _ 1 _ b (by simp) (by omega) (by simp) rfl hb]; simp
    | false =>
      rw [out_miss (k + 2) _ 1 _ b (by simp) (by omega) (by simp) rfl hb, w12]
      cases hc : bad c with
      | true => rw [out_hit (k + 1) _ 2 _ c (by simp) (by omega) (by simp) rfl hc]; simp
      | false => rw [out_miss (k + 1) _ 2 _ c (by simp) (by omega) (by simp) rfl hc, w23, out_end k _ 3 _ (by simp)]; simp
theorem out2 (k : Nat) (a b : S37) : clock_out.f (k + 3) [a, b] = some (bad a || bad b) := by
  unfold clock_out.f
  cases ha : bad a with
  | true => rw [out_hit (k + 2) _ 0 _ a (by simp) (by omega) (by simp) rfl ha]; simp
  | false =>
    rw [out_miss (k + 2) _ 0 _ a (by simp) (by omega) (by simp) rfl ha, w01]
    cases hb : bad b with
    | true => rw [out_hit (k + 1) _ 1 _ b (by simp) (by omega) (by simp) rfl hb]; simp
    | false => rw [out_miss (k + 1) _ 1 _ b (by simp) (by omega) (by simp) rfl hb, w12, out_end k _ 2 _ (by simp)]; simp

/-- The plain arithmetic of a clock. -/
theorem lin (rate world : Int) (h : 800 ≤ rate) (h' : rate ≤ 1200) (h0 : 0 ≤ world) (h1 : world ≤ 1099511627776) :
    ∃ p s, world / 1000 * rate = p ∧ world % 1000 * rate = s ∧ rate * world = 1000 * p + s ∧ 0 ≤ p ∧ p ≤ 1400000000000 ∧ 0 ≤ s ∧ s ≤ 1200000 := by
  refine ⟨_, _, rfl, rfl, ?_, ?_, ?_, ?_, ?_⟩
  · have e : world = 1000 * (world / 1000) + world % 1000 := by omega
    calc rate * world = rate * (1000 * (world / 1000) + world % 1000) := by rw [← e]
      _ = 1000 * (world / 1000 * rate) + world % 1000 * rate := by
        rw [Int.mul_add, Int.mul_left_comm, Int.mul_comm rate (world / 1000), Int.mul_comm rate (world % 1000)]
  · exact Int.mul_nonneg (by omega) (by omega)
  · have a := Int.mul_le_mul_of_nonneg_left h' (show 0 ≤ world / 1000 by omega)
    omega
  · exact Int.mul_nonneg (by omega) (by omega)
  · have a := Int.mul_le_mul_of_nonneg_left h' (show 0 ≤ world % 1000 by omega)
    omega
theorem local_in (k : Nat) (rate first world : Int) (h : 800 ≤ rate) (h' : rate ≤ 1200) (f0 : 0 ≤ first) (f1 : first ≤ 1099511627776) (h0 : 0 ≤ world) (h1 : world ≤ 1099511627776) :
    clock_Local.f (k + 4) rate first world = some (first + rate * world / 1000, 0) := by
  unfold clock_Local.f
  rw [out3, bad_false (b := ⟨rate, 800, 1200⟩) h h', bad_false (b := ⟨first, 0, 1099511627776⟩) f0 f1, bad_false (b := ⟨world, 0, 1099511627776⟩) h0 h1]
  simp only [Option.bind_some, Bool.or_false]
  rw [if_neg (by simp)]
  obtain ⟨p, s, hp, hs, e, p0, p1, s0, s1⟩ := lin rate world h h' h0 h1
  rw [Int.tdiv_eq_ediv_of_nonneg h0, Int.tmod_eq_emod_of_nonneg h0, w_in (n := world / 1000) (by omega) (by omega), hp, hs, w_in (n := s) (by omega) (by omega),
    Int.tdiv_eq_ediv_of_nonneg s0, w_in (n := p) (by omega) (by omega), w_in (n := first + p) (by omega) (by omega), w_in (n := s / 1000) (by omega) (by omega),
    w_in (by omega) (by omega), e]
  congr 2
  omega
theorem local_out (k : Nat) (rate first world : Int) (h : rate < 800 ∨ 1200 < rate ∨ first < 0 ∨ 1099511627776 < first ∨ world < 0 ∨ 1099511627776 < world) :
    clock_Local.f (k + 4) rate first world = some (0, 1) := by
  unfold clock_Local.f
  rw [out3]
  have e : (bad ⟨rate, 800, 1200⟩ || bad ⟨first, 0, 1099511627776⟩ || bad ⟨world, 0, 1099511627776⟩) = true := by
    unfold bad
    simp
    omega
  rw [e]
  simp
/-- The quotient that is safe of a lease. -/
theorem quo (lease drift : Int) (h : 1 ≤ lease) (h' : lease ≤ 1000) (d0 : 0 ≤ drift) (d1 : drift ≤ 200) :
    0 ≤ lease * (1000 - drift) ∧ lease * (1000 - drift) ≤ 1000000 ∧ 0 ≤ lease * (1000 - drift) / (1000 + drift) ∧ lease * (1000 - drift) / (1000 + drift) ≤ 1000000 := by
  have a := Int.mul_nonneg (show 0 ≤ lease by omega) (show 0 ≤ 1000 - drift by omega)
  have b := Int.mul_le_mul h' (show 1000 - drift ≤ 1000 by omega) (by omega) (by omega)
  refine ⟨a, by omega, Int.ediv_nonneg a (by omega), ?_⟩
  have c := Int.ediv_le_self (b := 1000 + drift) a
  omega
theorem safe_in (k : Nat) (lease drift : Int) (h : 1 ≤ lease) (h' : lease ≤ 1000) (d0 : 0 ≤ drift) (d1 : drift ≤ 200) :
    clock_Safe.f (k + 3) lease drift = some (mx (lease * (1000 - drift) / (1000 + drift)) 2 - 2, 0) := by
  unfold clock_Safe.f
  rw [out2, bad_false (b := ⟨lease, 1, 1000⟩) h h', bad_false (b := ⟨drift, 0, 200⟩) d0 d1]
  simp only [Option.bind_some, Bool.or_false]
  rw [if_neg (by simp)]
  obtain ⟨a, b, c, d⟩ := quo lease drift h h' d0 d1
  rw [w_in (n := 1000 + drift) (by omega) (by omega), if_neg (by omega), w_in (n := 1000 - drift) (by omega) (by omega), w_in (n := lease * (1000 - drift)) (by omega) (by omega),
    Int.tdiv_eq_ediv_of_nonneg a, w_in (n := lease * (1000 - drift) / (1000 + drift)) (by omega) (by omega)]
  rw [w_in (by unfold mx; split <;> omega) (by unfold mx; split <;> omega)]
theorem safe_out (k : Nat) (lease drift : Int) (h : lease < 1 ∨ 1000 < lease ∨ drift < 0 ∨ 200 < drift) : clock_Safe.f (k + 3) lease drift = some (0, 1) := by
  unfold clock_Safe.f
  rw [out2]
  have e : (bad ⟨lease, 1, 1000⟩ || bad ⟨drift, 0, 200⟩) = true := by
    unfold bad
    simp
    omega
  rw [e]
  simp
theorem wait_in (k : Nat) (lease drift : Int) (h : 1 ≤ lease) (h' : lease ≤ 1000) (d0 : 0 ≤ drift) (d1 : drift ≤ 200) :
    clock_Wait.f (k + 3) lease drift = some ((1000 * (lease + 1) + (1000 - drift) - 1) / (1000 - drift), 0) := by
  unfold clock_Wait.f
  rw [out2, bad_false (b := ⟨lease, 1, 1000⟩) h h', bad_false (b := ⟨drift, 0, 200⟩) d0 d1]
  simp only [Option.bind_some, Bool.or_false]
  rw [if_neg (by simp)]
  have a : 0 ≤ (1000 * (lease + 1) + (1000 - drift) - 1) / (1000 - drift) := Int.ediv_nonneg (by omega) (by omega)
  have c := Int.ediv_le_self (b := 1000 - drift) (show 0 ≤ 1000 * (lease + 1) + (1000 - drift) - 1 by omega)
  rw [w_in (n := 1000 - drift) (by omega) (by omega), if_neg (by omega), w_in (n := lease + 1) (by omega) (by omega), w_in (n := 1000 * (lease + 1)) (by omega) (by omega),
    w_in (n := 1000 * (lease + 1) + (1000 - drift)) (by omega) (by omega), w_in (n := 1000 * (lease + 1) + (1000 - drift) - 1) (by omega) (by omega),
    Int.tdiv_eq_ediv_of_nonneg (by omega), w_in (by omega) (by omega)]
theorem wait_out (k : Nat) (lease drift : Int) (h : lease < 1 ∨ 1000 < lease ∨ drift < 0 ∨ 200 < drift) : clock_Wait.f (k + 3) lease drift = some (0, 1) := by
  unfold clock_Wait.f
  rw [out2]
  have e : (bad ⟨lease, 1, 1000⟩ || bad ⟨drift, 0, 200⟩) = true := by
    unfold bad
    simp
    omega
  rw [e]
  simp
theorem awake_true (k : Nat) : juratlaw14_awake.f (k + 4) = some true := by
  unfold juratlaw14_awake.f
  rw [local_in k 900 5 10 (by omega) (by omega) (by omega) (by omega) (by omega) (by omega), safe_in (k + 1) 100 100 (by omega) (by omega) (by omega) (by omega),
    wait_in (k + 1) 100 100 (by omega) (by omega) (by omega) (by omega)]
  decide
/-- How many ticks till a lease is over: the least number of them that is enough. -/
theorem wait_is (lease drift : Int) (h : 1 ≤ lease) (h' : lease ≤ 1000) (d0 : 0 ≤ drift) (d1 : drift ≤ 200) :
    ∃ n, (1000 * (lease + 1) + (1000 - drift) - 1) / (1000 - drift) = n ∧ 0 ≤ n ∧ n ≤ 1300 ∧ 1000 * (lease + 1) ≤ n * (1000 - drift) ∧ (n - 1) * (1000 - drift) < 1000 * (lease + 1) := by
  refine ⟨_, rfl, Int.ediv_nonneg (by omega) (by omega), ?_, ?_, ?_⟩
  · have a : (1000 * (lease + 1) + (1000 - drift) - 1) / (1000 - drift) < 1301 := Int.ediv_lt_of_lt_mul (by omega) (by
      have b := Int.mul_le_mul_of_nonneg_left (show 800 ≤ 1000 - drift by omega) (show (0 : Int) ≤ 1300 by omega)
      omega)
    omega
  · have a := Int.mul_ediv_add_emod (1000 * (lease + 1) + (1000 - drift) - 1) (1000 - drift)
    have b := Int.emod_lt_of_pos (1000 * (lease + 1) + (1000 - drift) - 1) (show 0 < 1000 - drift by omega)
    rw [Int.mul_comm] at a
    omega
  · have a := Int.mul_ediv_add_emod (1000 * (lease + 1) + (1000 - drift) - 1) (1000 - drift)
    have b := Int.emod_nonneg (1000 * (lease + 1) + (1000 - drift) - 1) (show 1000 - drift ≠ 0 by omega)
    rw [Int.sub_mul, Int.one_mul]
    rw [Int.mul_comm] at a
    omega
theorem right_is (a b : Int) : juratref14_Right.f a b = some (decide (1 ≤ a ∧ a ≤ 1000 ∧ 0 ≤ b ∧ b ≤ 200)) := by
  unfold juratref14_Right.f juratref14_in.f
  by_cases c : a ≥ 1 <;> by_cases c1 : a ≤ 1000 <;> by_cases c2 : b ≥ 0 <;> by_cases c3 : b ≤ 200 <;> simp [c, c1, c2, c3] <;> omega
theorem in_is (n a b : Int) : juratref14_in.f n a b = some (decide (a ≤ n ∧ n ≤ b)) := by
  unfold juratref14_in.f
  by_cases c : n ≥ a <;> by_cases c1 : n ≤ b <;> simp [c, c1] <;> omega
theorem ref_local_in (rate first world : Int) (h : 800 ≤ rate) (h' : rate ≤ 1200) (f0 : 0 ≤ first) (f1 : first ≤ 1099511627776) (h0 : 0 ≤ world) (h1 : world ≤ 1099511627776) :
    juratref14_Local.f rate first world = some (first + rate * world / 1000, 0) := by
  unfold juratref14_Local.f
  rw [in_is, in_is, in_is]
  obtain ⟨p, s, hp, hs, e, p0, p1, s0, s1⟩ := lin rate world h h' h0 h1
  simp only [Option.bind_some, decide_eq_true_eq]
  rw [if_pos (by omega), if_pos (by omega), if_pos (by omega)]
  generalize rate * world = F at *
  rw [w_in (n := F) (by omega) (by omega), Int.tdiv_eq_ediv_of_nonneg (by omega), w_in (n := F / 1000) (by omega) (by omega), w_in (by omega) (by omega)]
theorem ref_local_out (rate first world : Int) (h : rate < 800 ∨ 1200 < rate ∨ first < 0 ∨ 1099511627776 < first ∨ world < 0 ∨ 1099511627776 < world) :
    juratref14_Local.f rate first world = some (0, 1) := by
  unfold juratref14_Local.f
  rw [in_is, in_is, in_is]
  simp only [Option.bind_some, decide_eq_true_eq]
  by_cases c : 800 ≤ rate ∧ rate ≤ 1200
  · rw [if_pos c]
    by_cases c1 : 0 ≤ first ∧ first ≤ 1099511627776
    · rw [if_pos c1, if_neg (by omega)]
    · rw [if_neg c1]
  · rw [if_neg c]
theorem mx_sub (q : Int) : mx 0 (q - 2) = mx q 2 - 2 := by
  unfold mx
  split <;> split <;> omega
theorem ref_safe_in (lease drift : Int) (h : 1 ≤ lease) (h' : lease ≤ 1000) (d0 : 0 ≤ drift) (d1 : drift ≤ 200) :
    juratref14_Safe.f lease drift = some (mx (lease * (1000 - drift) / (1000 + drift)) 2 - 2, 0) := by
  unfold juratref14_Safe.f
  rw [right_is]
  simp only [Option.bind_some, decide_eq_true_eq]
  rw [if_pos (by omega)]
  obtain ⟨a, b, c, d⟩ := quo lease drift h h' d0 d1
  rw [w_in (n := 1000 + drift) (by omega) (by omega), if_neg (by omega), w_in (n := 1000 - drift) (by omega) (by omega), w_in (n := lease * (1000 - drift)) (by omega) (by omega),
    Int.tdiv_eq_ediv_of_nonneg a, w_in (n := lease * (1000 - drift) / (1000 + drift)) (by omega) (by omega), w_in (by omega) (by omega), mx_sub]
theorem ref_out (lease drift : Int) (h : lease < 1 ∨ 1000 < lease ∨ drift < 0 ∨ 200 < drift) (k : Nat) : juratref14_Safe.f lease drift = some (0, 1) ∧ juratref14_Wait.f k lease drift = some (0, 1) := by
  unfold juratref14_Safe.f juratref14_Wait.f
  rw [right_is]
  simp only [Option.bind_some, decide_eq_true_eq]
  rw [if_neg (by omega), if_neg (by omega)]
  exact ⟨rfl, rfl⟩
theorem ref_wait_l (lease drift N : Int) (h : 1 ≤ lease) (h' : lease ≤ 1000) (d0 : 0 ≤ drift) (d1 : drift ≤ 200) (N1 : N ≤ 1300) (e : 1000 * (lease + 1) ≤ N * (1000 - drift)) (e' : (N - 1) * (1000 - drift) < 1000 * (lease + 1))
    (d : Nat) : ∀ (k : Nat) (i : Int), 0 ≤ i → N - i = d → d < k → juratref14_Wait.l0 k lease drift i = some (N, 0) := by
  induction d with
  | zero =>
    intro k i i0 hi hk
    obtain ⟨k, rfl⟩ : ∃ m, k = m + 1 := ⟨k - 1, by omega⟩
    obtain rfl : i = N := by omega
    have b := Int.mul_le_mul_of_nonneg_left (show 1000 - drift ≤ 1000 by omega) i0
    have b0 := Int.mul_nonneg i0 (show 0 ≤ 1000 - drift by omega)
    simp only [juratref14_Wait.l0]
    rw [w_in (n := 1000 - drift) (by omega) (by omega), w_in (n := lease + 1) (by omega) (by omega), w_in (n := 1000 * (lease + 1)) (by omega) (by omega), w_in (n := i * (1000 - drift)) (by omega) (by omega), if_neg (by omega)]
  | succ d ih =>
    intro k i i0 hi hk
    obtain ⟨k, rfl⟩ : ∃ m, k = m + 1 := ⟨k - 1, by omega⟩
    have b := Int.mul_le_mul_of_nonneg_left (show 1000 - drift ≤ 1000 by omega) i0
    have b0 := Int.mul_nonneg i0 (show 0 ≤ 1000 - drift by omega)
    have b1 := Int.mul_le_mul_of_nonneg_right (show i ≤ N - 1 by omega) (show 0 ≤ 1000 - drift by omega)
    rw [juratref14_Wait.l0]
    rw [w_in (n := 1000 - drift) (by omega) (by omega), w_in (n := lease + 1) (by omega) (by omega), w_in (n := 1000 * (lease + 1)) (by omega) (by omega), w_in (n := i * (1000 - drift)) (by omega) (by omega), if_pos (by omega), w_in (n := i + 1) (by omega) (by omega)]
    exact ih k (i + 1) (by omega) (by omega) (by omega)
theorem ref_wait_in (k : Nat) (hk : 1301 < k) (lease drift : Int) (h : 1 ≤ lease) (h' : lease ≤ 1000) (d0 : 0 ≤ drift) (d1 : drift ≤ 200) :
    juratref14_Wait.f k lease drift = some ((1000 * (lease + 1) + (1000 - drift) - 1) / (1000 - drift), 0) := by
  unfold juratref14_Wait.f
  rw [right_is]
  simp only [Option.bind_some, decide_eq_true_eq]
  rw [if_pos (by omega)]
  obtain ⟨n, hn, n0, n1, n2, n3⟩ := wait_is lease drift h h' d0 d1
  rw [hn]
  exact ref_wait_l lease drift n h h' d0 d1 n1 n2 n3 n.toNat k 0 (by omega) (by omega) (by omega)
theorem ClockTells : juratlaw14_ClockTells.Pure := by
  intro a0 a1 a2 a3 a4 _ _ _ _ _
  obtain ⟨k, hk⟩ : ∃ k : Nat, k = 2000 := ⟨_, rfl⟩
  refine ⟨k + 4, ?_⟩
  unfold juratlaw14_ClockTells.f
  have hl : ∃ x, clock_Local.f (k + 4) a0 a1 a2 = some x ∧ juratref14_Local.f a0 a1 a2 = some x := by
    by_cases c : a0 < 800 ∨ 1200 < a0 ∨ a1 < 0 ∨ 1099511627776 < a1 ∨ a2 < 0 ∨ 1099511627776 < a2
    · exact ⟨_, local_out k _ _ _ c, ref_local_out _ _ _ c⟩
    · exact ⟨_, local_in k _ _ _ (by omega) (by omega) (by omega) (by omega) (by omega) (by omega), ref_local_in _ _ _ (by omega) (by omega) (by omega) (by omega) (by omega) (by omega)⟩
  have hs : ∃ x, clock_Safe.f (k + 4) a3 a4 = some x ∧ juratref14_Safe.f a3 a4 = some x := by
    by_cases c : a3 < 1 ∨ 1000 < a3 ∨ a4 < 0 ∨ 200 < a4
    · exact ⟨_, safe_out (k + 1) _ _ c, (ref_out _ _ c 0).1⟩
    · exact ⟨_, safe_in (k + 1) _ _ (by omega) (by omega) (by omega) (by omega), ref_safe_in _ _ (by omega) (by omega) (by omega) (by omega)⟩
  have hw : ∃ x, clock_Wait.f (k + 4) a3 a4 = some x ∧ juratref14_Wait.f (k + 4) a3 a4 = some x := by
    by_cases c : a3 < 1 ∨ 1000 < a3 ∨ a4 < 0 ∨ 200 < a4
    · exact ⟨_, wait_out (k + 1) _ _ c, (ref_out _ _ c _).2⟩
    · exact ⟨_, wait_in (k + 1) _ _ (by omega) (by omega) (by omega) (by omega), ref_wait_in _ (by omega) _ _ (by omega) (by omega) (by omega) (by omega)⟩
  obtain ⟨x, hx, hx'⟩ := hl
  obtain ⟨y, hy, hy'⟩ := hs
  obtain ⟨z, hz, hz'⟩ := hw
  rw [hx, hx', hy, hy', hz, hz', awake_true k]
  simp

end Go.Proofs.Ytecahkkakfjhfaa.Pure
