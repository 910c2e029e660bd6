/- PROVED: the law ClockSafe of the printed functions: as long as a holder's clock has gone less than what is safe of a lease, no other clock has gone the lease since. No condition beyond the statement's own bounds. -/
import Derived.Test.YtecahkkakfjhfaaPClockSafex1
namespace Go.Proofs.Ytecahkkakfjhfaa.Pure
open Go.RowKit Go.Proofs.Ytecahkkakfjhfaa.PClockSafe Go.Proofs.YtecahkkakfjhfaaW.PrintWords Go.Proofs.YtecahkkakfjhfaaW.PrintLast

theorem w01 : wrap64 (0 + 1) = 1 := by unfold wrap64; omega
theorem w12 : wrap64 (1 + 1) = 2 := by unfold wrap64; omega
theorem w23 : wrap64 (2 + 1) = 3 := by unfold wrap64; omega
theorem bd {a : Int} (h : (Lit.int .i64 a).wf = true) : -9223372036854775808 ≤ a ∧ a ≤ 9223372036854775807 := by
  simp [Lit.wf, IntKind.min, IntKind.max, IntKind.signed, IntKind.bits] at h
  omega
theorem w_in {n : Int} (h : -9223372036854775808 ≤ n) (h' : n ≤ 9223372036854775807) : wrap64 n = n := by
  unfold wrap64
  omega
def bad (b : S37) : Bool := decide (b.f0 < b.f1) || decide (b.f0 > b.f2)
theorem bad_true {b : S37} (h : b.f0 < b.f1 ∨ b.f0 > b.f2) : bad b = true := by
  unfold bad
  simpa using h
theorem bad_false {b : S37} (h : b.f1 ≤ b.f0) (h' : b.f0 ≤ b.f2) : bad b = false := by
  unfold bad
  simp
  omega
theorem out_hit (k : Nat) (l : List S37) (i : Int) (n : Int) (b : S37) (hi : i < n) (h0 : 0 ≤ i) (hl : i < (l.length : Int)) (hb : rd_T37 l i = b) (h : bad b = true) : clock_out.l0 (k + 1) l n i = some true := by
  simp only [clock_out.l0]
  rw [if_pos hi, if_pos h0, if_pos hl, hb]
  unfold bad at h
  by_cases c : b.f0 < b.f1
  · rw [if_pos c]
  · rw [if_neg c, if_pos (by simpa [c] using h)]
theorem out_miss (k : Nat) (l : List S37) (i : Int) (n : Int) (b : S37) (hi : i < n) (h0 : 0 ≤ i) (hl : i < (l.length : Int)) (hb : rd_T37 l i = b) (h : bad b = false) : clock_out.l0 (k + 1) l n i = clock_out.l0 k l n (wrap64 (i + 1)) := by
  rw [clock_out.l0]
  rw [if_pos hi, if_pos h0, if_pos hl, hb]
  unfold bad at h
  simp at h
  rw [if_neg (by omega), if_neg (by omega)]
theorem out_end (k : Nat) (l : List S37) (i : Int) (n : Int) (hi : ¬ i < n) : clock_out.l0 (k + 1) l n i = some false := by
  simp only [clock_out.l0]
  rw [if_neg hi]
theorem out3 (k : Nat) (a b c : S37) : clock_out.f (k + 4) [a, b, c] = some (bad a || bad b || bad c) := by
  unfold clock_out.f
  cases ha : bad a with
  | true => rw [out_hit (k + 3) _ 0 _ a (by simp) (by omega) (by simp) rfl ha]; simp
  | false =>
    rw [out_miss (k + 3) _ 0 _ a (by simp) (by omega) (by simp) rfl ha, w01]
    cases hb : bad b with
    | true => rw [out_hit (k + 2) _ 1 _ b (by simp) (by omega) (by simp) rfl hb]; simp
    | false =>
      rw [out_miss (k + 2) _ 1 _ b (by simp) (by omega) (by simp) rfl hb, w12]
      cases hc : bad c with
      | true => rw [out_hit (k + 1) _ 2 _ c (by simp) (by omega) (by simp) rfl hc]; simp
      | false => rw [out_miss (k + 1) _ 2 _ c (by simp) (by omega) (by simp) rfl hc, w23, out_end k _ 3 _ (by simp)]; simp
theorem out2 (k : Nat) (a b : S37) : clock_out.f (k + 3) [a, b] = some (bad a || bad b) := by
  unfold clock_out.f
  cases ha : bad a with
  | true => rw [out_hit (k + 2) _ 0 _ a (by simp) (by omega) (by simp) rfl ha]; simp
  | false =>
    rw [out_miss (k + 2) _ 0 _ a (by simp) (by omega) (by simp) rfl ha, w01]
    cases hb : bad b with
    | true => rw [out_hit (k + 1) _ 1 _ b (by simp) (by omega) (by simp) rfl hb]; simp
    | false => rw [out_miss (k + 1) _ 1 _ b (by simp) (by omega) (by simp) rfl hb, w12, out_end k _ 2 _ (by simp)]; simp

/-- The plain arithmetic of a clock. -/
theorem lin (rate world : Int) (h : 800 ≤ rate) (h' : rate ≤ 1200) (h0 : 0 ≤ world) (h1 : world ≤ 1099511627776) :
    ∃ p s, world / 1000 * rate = p ∧ world % 1000 * rate = s ∧ rate * world = 1000 * p + s ∧ 0 ≤ p ∧ p ≤ 1400000000000 ∧ 0 ≤ s ∧ s ≤ 1200000 := by
  refine ⟨_, _, rfl, rfl, ?_, ?_, ?_, ?_, ?_⟩
  · have e : world = 1000 * (world / 1000) + world % 1000 := by omega
    calc rate * world = rate * (1000 * (world / 1000) + world % 1000) := by rw [← e]
      _ = 1000 * (world / 1000 * rate) + world % 1000 * rate := by
        rw [Int.mul_add, Int.mul_left_comm, Int.mul_comm rate (world / 1000), Int.mul_comm rate (world % 1000)]
  · exact Int.mul_nonneg (by omega) (by omega)
  · have a := Int.mul_le_mul_of_nonneg_left h' (show 0 ≤ world / 1000 by omega)
    omega
  · exact Int.mul_nonneg (by omega) (by omega)
  · have a := Int.mul_le_mul_of_nonneg_left h' (show 0 ≤ world % 1000 by omega)
    omega
theorem local_in (k : Nat) (rate first world : Int) (h : 800 ≤ rate) (h' : rate ≤ 1200) (f0 : 0 ≤ first) (f1 : first ≤ 1099511627776) (h0 : 0 ≤ world) (h1 : world ≤ 1099511627776) :
    clock_Local.f (k + 4) rate first world = some (first + rate * world / 1000, 0) := by
  unfold clock_Local.f
  rw [out3, bad_false (b := ⟨rate, 800, 1200⟩) h h', bad_false (b := ⟨first, 0, 1099511627776⟩) f0 f1, bad_false (b := ⟨world, 0, 1099511627776⟩) h0 h1]
  simp only [Option.bind_some, Bool.or_false]
  rw [if_neg (by simp)]
  obtain ⟨p, s, hp, hs, e, p0, p1, s0, s1⟩ := lin rate world h h' h0 h1
  rw [Int.tdiv_eq_ediv_of_nonneg h0, Int.tmod_eq_emod_of_nonneg h0, w_in (n := world / 1000) (by omega) (by omega), hp, hs, w_in (n := s) (by omega) (by omega),
    Int.tdiv_eq_ediv_of_nonneg s0, w_in (n := p) (by omega) (by omega), w_in (n := first + p) (by omega) (by omega), w_in (n := s / 1000) (by omega) (by omega),
    w_in (by omega) (by omega), e]
  congr 2
  omega
theorem local_out (k : Nat) (rate first world : Int) (h : rate < 800 ∨ 1200 < rate ∨ first < 0 ∨ 1099511627776 < first ∨ world < 0 ∨ 1099511627776 < world) :
    clock_Local.f (k + 4) rate first world = some (0, 1) := by
  unfold clock_Local.f
  rw [out3]
  have e : (bad ⟨rate, 800, 1200⟩ || bad ⟨first, 0, 1099511627776⟩ || bad ⟨world, 0, 1099511627776⟩) = true := by
    unfold bad
    simp
    omega
  rw [e]
  simp
/-- The quotient that is safe of a lease. -/
theorem quo (lease drift : Int) (h : 1 ≤ lease) (h' : lease ≤ 1000) (d0 : 0 ≤ drift) (d1 : drift ≤ 200) :
    0 ≤ lease * (1000 - drift) ∧ lease * (1000 - drift) ≤ 1000000 ∧ 0 ≤ lease * (1000 - drift) / (1000 + drift) ∧ lease * (1000 - drift) / (1000 + drift) ≤ 1000000 := by
  have a := Int.mul_nonneg (show 0 ≤ lease by omega) (show 0 ≤ 1000 - drift by omega)
  have b := Int.mul_le_mul h' (show 1000 - drift ≤ 1000 by omega) (by omega) (by omega)
  refine ⟨a, by omega, Int.ediv_nonneg a (by omega), ?_⟩
  have c := Int.ediv_le_self (b := 1000 + drift) a
  omega
theorem safe_in (k : Nat) (lease drift : Int) (h : 1 ≤ lease) (h' : lease ≤ 1000) (d0 : 0 ≤ drift) (d1 : drift ≤ 200) :
    clock_Safe.f (k + 3) lease drift = some (mx (lease * (1000 - drift) / (1000 + drift)) 2 - 2, 0) := by
  unfold clock_Safe.f
  rw [out2, bad_false (b := ⟨lease, 1, 1000⟩) h h', bad_false (b := ⟨drift, 0, 200⟩) d0 d1]
  simp only [Option.bind_some, Bool.or_false]
  rw [if_neg (by simp)]
  obtain ⟨a, b, c, d⟩ := quo lease drift h h' d0 d1
  rw [w_in (n := 1000 + drift) (by omega) (by omega), if_neg (by omega), w_in (n := 1000 - drift) (by omega) (by omega), w_in (n := lease * (1000 - drift)) (by omega) (by omega),
    Int.tdiv_eq_ediv_of_nonneg a, w_in (n := lease * (1000 - drift) / (1000 + drift)) (by omega) (by omega)]
  rw [w_in (by unfold mx; split <;> omega) (by unfold mx; split <;> omega)]
theorem safe_out (k : Nat) (lease drift : Int) (h : lease < 1 ∨ 1000 < lease ∨ drift < 0 ∨ 200 < drift) : clock_Safe.f (k + 3) lease drift = some (0, 1) := by
  unfold clock_Safe.f
  rw [out2]
  have e : (bad ⟨lease, 1, 1000⟩ || bad ⟨drift, 0, 200⟩) = true := by
    unfold bad
    simp
    omega
  rw [e]
  simp
theorem wait_in (k : Nat) (lease drift : Int) (h : 1 ≤ lease) (h' : lease ≤ 1000) (d0 : 0 ≤ drift) (d1 : drift ≤ 200) :
    clock_Wait.f (k + 3) lease drift = some ((1000 * (lease + 1) + (1000 - drift) - 1) / (1000 - drift), 0) := by
  unfold clock_Wait.f
  rw [out2, bad_false (b := ⟨lease, 1, 1000⟩) h h', bad_false (b := ⟨drift, 0, 200⟩) d0 d1]
  simp only [Option.bind_some, Bool.or_false]
  rw [if_neg (by simp)]
  have a : 0 ≤ (1000 * (lease + 1) + (1000 - drift) - 1) / (1000 - drift) := Int.ediv_nonneg (by omega) (by omega)
  have c := Int.ediv_le_self (b := 1000 - drift) (show 0 ≤ 1000 * (lease + 1) + (1000 - drift) - 1 by omega)
  rw [w_in (n := 1000 - drift) (by omega) (by omega), if_neg (by omega), w_in (n := lease + 1) (by omega) (by omega), w_in (n := 1000 * (lease + 1)) (by omega) (by omega),
    w_in (n := 1000 * (lease + 1) + (1000 - drift)) (by omega) (by omega), w_in (n := 1000 * (lease + 1) + (1000 - drift) - 1) (by omega) (by omega),
    Int.tdiv_eq_ediv_of_nonneg (by omega), w_in (by omega) (by omega)]
theorem wait_out (k : Nat) (lease drift : Int) (h : lease < 1 ∨ 1000 < lease ∨ drift < 0 ∨ 200 < drift) : clock_Wait.f (k + 3) lease drift = some (0, 1) := by
  unfold clock_Wait.f
  rw [out2]
  have e : (bad ⟨lease, 1, 1000⟩ || bad ⟨drift, 0, 200⟩) = true := by
    unfold bad
    simp
    omega
  rw [e]
  simp
theorem awake_true (k : Nat) : juratlaw14_awake.f (k + 4) = some true := by
  unfold juratlaw14_awake.f
  rw [local_in k 900 5 10 (by omega) (by omega) (by omega) (by omega) (by omega) (by omega), safe_in (k + 1) 100 100 (by omega) (by omega) (by omega) (by omega),
    wait_in (k + 1) 100 100 (by omega) (by omega) (by omega) (by omega)]
  decide
/-- How many ticks till a lease is over: the least number of them that is enough. -/
theorem wait_is (lease drift : Int) (h : 1 ≤ lease) (h' : lease ≤ 1000) (d0 : 0 ≤ drift) (d1 : drift ≤ 200) :
    ∃ n, (1000 * (lease + 1) + (1000 - drift) - 1) / (1000 - drift) = n ∧ 0 ≤ n ∧ n ≤ 1300 ∧ 1000 * (lease + 1) ≤ n * (1000 - drift) ∧ (n - 1) * (1000 - drift) < 1000 * (lease + 1) := by
  refine ⟨_, rfl, Int.ediv_nonneg (by omega) (by omega), ?_, ?_, ?_⟩
  · have a : (1000 * (lease + 1) + (1000 - drift) - 1) / (1000 - drift) < 1301 := Int.ediv_lt_of_lt_mul (by omega) (by
      have b := Int.mul_le_mul_of_nonneg_left (show 800 ≤ 1000 - drift by omega) (show (0 : Int) ≤ 1300 by omega)
      omega)
    omega
  · have a := Int.mul_ediv_add_emod (1000 * (lease + 1) + (1000 - drift) - 1) (1000 - drift)
    have b := Int.emod_lt_of_pos (1000 * (lease + 1) + (1000 - drift) - 1) (show 0 < 1000 - drift by omega)
    rw [Int.mul_comm] at a
    omega
  · have a := Int.mul_ediv_add_emod (1000 * (lease + 1) + (1000 - drift) - 1) (1000 - drift)
    have b := Int.emod_nonneg (1000 * (lease + 1) + (1000 - drift) - 1) (show 1000 - drift ≠ 0 by omega)
    rw [Int.sub_mul, Int.one_mul]
    rw [Int.mul_comm] at a
    omega
theorem right_is (a b : Int) : juratref14_Right.f a b = some (decide (1 ≤ a ∧ a ≤ 1000 ∧ 0 ≤ b ∧ b ≤ 200)) := by
  unfold juratref14_Right.f juratref14_in.f
  by_cases c : a ≥ 1 <;> by_cases c1 : a ≤ 1000 <;> by_cases c2 : b ≥ 0 <;> by_cases c3 : b ≤ 200 <;> simp [c, c1, c2, c3] <;> omega
/-- The plain law: a holder's clock and another one. 'd': the drift; 'm', 'o': the rates; 'b', 'l', 'e': begin, later, end. -/
theorem holds (m o lease d b l e s : Int) (hs : s = lease * (1000 - d) / (1000 + d)) (_hl : 1 ≤ lease) (d0 : 0 ≤ d) (d1 : d ≤ 200) (m0 : 1000 - d ≤ m) (o1 : o ≤ 1000 + d)
    (hbl : b ≤ l) (hle : l ≤ e) (hge : lease ≤ (o * e) / 1000 - (o * l) / 1000) : mx s 2 - 2 ≤ (m * e) / 1000 - (m * b) / 1000 := by
  have T0 : 0 ≤ e - l := by omega
  have hmT : (1000 - d) * (e - l) ≤ m * (e - l) := Int.mul_le_mul_of_nonneg_right m0 T0
  have hmB : m * (e - l) ≤ m * (e - b) := Int.mul_le_mul_of_nonneg_left (by omega) (by omega)
  have hoT : o * (e - l) ≤ (1000 + d) * (e - l) := Int.mul_le_mul_of_nonneg_right o1 T0
  rw [Int.mul_sub o] at hoT
  rw [Int.mul_sub m e b] at hmB
  have hm0 : 0 ≤ (1000 - d) * (e - l) := Int.mul_nonneg (by omega) T0
  unfold mx
  split
  · omega
  · rename_i hs2
    have hsl : s * (1000 + d) ≤ lease * (1000 - d) := by rw [hs]; exact Int.ediv_mul_le _ (by omega)
    by_cases hc : s - 2 ≤ (m * e) / 1000 - (m * b) / 1000
    · exact hc
    exfalso
    have x1 : (1000 - d) * (e - l) ≤ 1000 * (s - 2) := by omega
    have x2 : 1000 * lease - 999 ≤ (1000 + d) * (e - l) := by omega
    have y1 := Int.mul_le_mul_of_nonneg_left x1 (show 0 ≤ 1000 + d by omega)
    have y2 := Int.mul_le_mul_of_nonneg_left x2 (show 0 ≤ 1000 - d by omega)
    rw [Int.mul_left_comm] at y2
    have z1 : (1000 + d) * (1000 * (s - 2)) = 1000 * (s * (1000 + d)) - 2000 * (1000 + d) := by
      rw [Int.mul_left_comm, Int.mul_sub, Int.mul_comm (1000 + d) s]
      omega
    have z2 : (1000 - d) * (1000 * lease - 999) = 1000 * (lease * (1000 - d)) - 999 * (1000 - d) := by
      rw [Int.mul_sub, Int.mul_left_comm, Int.mul_comm (1000 - d) lease]
      omega
    omega
theorem ClockSafe : juratlaw14_ClockSafe.Pure := by
  intro a0 a1 a2 a3 a4 a5 a6 h0 h1 h2 h3 h4 h5 h6
  have b0 := bd h0
  have b1 := bd h1
  have b3 := bd h3
  refine ⟨5, ?_⟩
  have hout : juratlaw14_ClockSafe.j0 (4 + 1) a0 a1 a2 a3 a4 a5 a6 true = some true := by
    rw [juratlaw14_ClockSafe.j0, if_pos rfl, awake_true 0]
    rfl
  unfold juratlaw14_ClockSafe.f
  rw [right_is]
  simp only [Option.bind_some, decide_eq_true_eq]
  by_cases r : 1 ≤ a2 ∧ a2 ≤ 1000 ∧ 0 ≤ a3 ∧ a3 ≤ 200
  rotate_left
  · rw [if_neg r]; exact hout
  rw [if_pos r, w_in (n := 1000 - a3) (by omega) (by omega), w_in (n := 1000 + a3) (by omega) (by omega)]
  by_cases c : a0 < 1000 - a3
  · rw [if_pos c]; exact hout
  rw [if_neg c]
  by_cases c1 : a0 > 1000 + a3
  · rw [if_pos c1]; exact hout
  rw [if_neg c1]
  by_cases c2 : a1 < 1000 - a3
  · rw [if_pos c2]; exact hout
  rw [if_neg c2]
  by_cases c3 : a1 > 1000 + a3
  · rw [if_pos c3]; exact hout
  rw [if_neg c3]
  by_cases c4 : a4 < 0
  · rw [if_pos c4]; exact hout
  rw [if_neg c4]
  by_cases c5 : a5 < a4
  · rw [if_pos c5]; exact hout
  rw [if_neg c5]
  by_cases c6 : a6 < a5
  · rw [if_pos c6]; exact hout
  rw [if_neg c6]
  by_cases c7 : a6 > 1099511627776
  · rw [decide_eq_true c7]; exact hout
  rw [decide_eq_false c7]
  rw [juratlaw14_ClockSafe.j0, if_neg (by simp)]
  rw [safe_in 1 _ _ (by omega) (by omega) (by omega) (by omega),
    local_in 0 a0 0 a4 (by omega) (by omega) (by omega) (by omega) (by omega) (by omega), local_in 0 a0 0 a6 (by omega) (by omega) (by omega) (by omega) (by omega) (by omega),
    local_in 0 a1 7 a5 (by omega) (by omega) (by omega) (by omega) (by omega) (by omega), local_in 0 a1 7 a6 (by omega) (by omega) (by omega) (by omega) (by omega) (by omega), awake_true 0]
  have key := holds a0 a1 a2 a3 a4 a5 a6 _ rfl (by omega) (by omega) (by omega) (by omega) (by omega) (by omega) (by omega)
  obtain ⟨p, s, hp, hs, e, p0, p1, s0, s1⟩ := lin a0 a4 (by omega) (by omega) (by omega) (by omega)
  obtain ⟨p', s', hp', hs', e', p0', p1', s0', s1'⟩ := lin a0 a6 (by omega) (by omega) (by omega) (by omega)
  obtain ⟨q, t, hq, ht, f, q0, q1, t0, t1⟩ := lin a1 a5 (by omega) (by omega) (by omega) (by omega)
  obtain ⟨q', t', hq', ht', f', q0', q1', t0', t1'⟩ := lin a1 a6 (by omega) (by omega) (by omega) (by omega)
  simp only [Option.bind_some]
  generalize a0 * a4 = A at *
  generalize a0 * a6 = B at *
  generalize a1 * a5 = C at *
  generalize a1 * a6 = D at *
  rw [if_pos trivial, if_pos trivial, if_pos trivial, if_pos trivial, if_pos trivial, w_in (n := 0 + B / 1000 - (0 + A / 1000)) (by omega) (by omega), w_in (n := 7 + D / 1000 - (7 + C / 1000)) (by omega) (by omega)]
  by_cases c8 : 0 + B / 1000 - (0 + A / 1000) ≥ mx (a2 * (1000 - a3) / (1000 + a3)) 2 - 2
  · rw [if_pos c8]
  · rw [if_neg c8, if_pos]
    by_cases c9 : a2 ≤ D / 1000 - C / 1000
    · have := key c9
      omega
    · omega

end Go.Proofs.Ytecahkkakfjhfaa.Pure
