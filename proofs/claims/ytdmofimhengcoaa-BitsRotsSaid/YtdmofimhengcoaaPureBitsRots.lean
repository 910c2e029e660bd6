/- PROVED: the law BitsRots of the printed functions: a word that is turned is the reference's, by any number of places. No condition. -/
import Derived.Test.YtdmofimhengcoaaPBitsRotsx1
import Derived.Laws.BitsAllLaws
namespace Go.Proofs.Ytdmofimhengcoaa.Pure
open Go.RowKit Go.Proofs.Ytdmofimhengcoaa.PBitsRots Go.Proofs.YtdmofimhengcoaaW.PrintWords Go.Proofs.YtdmofimhengcoaaW.PrintLast

/-- One turn to the right, of 32 bits. -/
def r1 (x : Nat) : Nat := x / 2 + x % 2 * 2147483648
/-- So many turns. -/
def it : Nat → Nat → Nat
  | 0, x => x
  | n + 1, x => r1 (it n x)
theorem it_add (a b x : Nat) : it (a + b) x = it a (it b x) := by
  induction a with
  | zero => rw [Nat.zero_add]; rfl
  | succ a ih => rw [Nat.succ_add]; simp only [it]; rw [ih]
theorem r1_lt {x : Nat} (h : x < 4294967296) : r1 x < 4294967296 := by unfold r1; omega
theorem it_lt {x : Nat} (h : x < 4294967296) (n : Nat) : it n x < 4294967296 := by
  induction n with
  | zero => exact h
  | succ n ih => exact r1_lt ih
theorem it_is {x : Nat} (_h : x < 4294967296) (k : Nat) (hk : k ≤ 32) : it k x = x / 2 ^ k + x % 2 ^ k * 2 ^ (32 - k) := by
  induction k with
  | zero => simp [it, Nat.mod_one]
  | succ k ih =>
    have e := ih (by omega)
    obtain ⟨j, hj⟩ : ∃ j, 32 - k = j + 1 := ⟨31 - k, by omega⟩
    have hj' : 32 - (k + 1) = j := by omega
    rw [hj] at e
    rw [hj']
    simp only [it]
    rw [e]
    have hp : 2 ^ k * 2 ^ j = 2147483648 := by
      rw [← Nat.pow_add]
      have : k + j = 31 := by omega
      rw [this]
    have hd : x / 2 ^ (k + 1) = x / 2 ^ k / 2 := by rw [Nat.pow_succ, Nat.div_div_eq_div_mul]
    have hm : x % 2 ^ (k + 1) = x % 2 ^ k + 2 ^ k * (x / 2 ^ k % 2) := by rw [Nat.pow_succ, Nat.mod_mul]
    have h2 : x % 2 ^ k * 2 ^ (j + 1) = 2 * (x % 2 ^ k * 2 ^ j) := by rw [Nat.pow_succ, ← Nat.mul_assoc, Nat.mul_comm]
    have h3 : (x % 2 ^ k + 2 ^ k * (x / 2 ^ k % 2)) * 2 ^ j = x % 2 ^ k * 2 ^ j + x / 2 ^ k % 2 * 2147483648 := by
      rw [Nat.add_mul, Nat.mul_right_comm, hp, Nat.mul_comm 2147483648]
    rw [hd, hm, h2, h3]
    unfold r1
    omega
theorem it_32 {x : Nat} (h : x < 4294967296) : it 32 x = x := by
  rw [it_is h 32 (by omega)]
  have a : x / 2 ^ 32 = 0 := Nat.div_eq_of_lt h
  have b : x % 2 ^ 32 = x := Nat.mod_eq_of_lt h
  rw [a, b]
  simp
theorem it_mod {x : Nat} (h : x < 4294967296) (n : Nat) : it (n % 32) x = it n x := by
  have e : n = n % 32 + 32 * (n / 32) := by omega
  generalize n / 32 = q at e
  rw [e]
  have : ∀ q, it (32 * q) x = x := by
    intro q
    induction q with
    | zero => rfl
    | succ q ih => rw [Nat.mul_succ, it_add, it_32 h, ih]
  rw [it_add, this]
  congr 1
  omega
theorem wu32 {a : Int} (h : (Lit.int .u32 a).wf = true) : ∃ x : Nat, a = x ∧ x < 4294967296 := by
  simp [Lit.wf, IntKind.min, IntKind.max, IntKind.signed, IntKind.bits] at h
  exact ⟨a.toNat, by omega, by omega⟩
theorem bd {a : Int} (h : (Lit.int .i64 a).wf = true) : -9223372036854775808 ≤ a ∧ a ≤ 9223372036854775807 := by
  simp [Lit.wf, IntKind.min, IntKind.max, IntKind.signed, IntKind.bits] at h
  omega
theorem w_in {n : Int} (h : -9223372036854775808 ≤ n) (h' : n ≤ 9223372036854775807) : wrap64 n = n := by
  unfold wrap64
  omega
theorem shl32 (x k : Nat) (_hx : x < 4294967296) (hk : k < 32) : shl .u32 (x : Int) ((32 - k : Nat) : Int) = ((x % 2 ^ k * 2 ^ (32 - k) : Nat) : Int) := by
  unfold shl
  rw [IntKind.wrap_u32]
  have e : min ((32 - k : Nat) : Int).toNat IntKind.u32.bits = 32 - k := by
    rw [Int.toNat_natCast]
    show min (32 - k) 32 = _
    omega
  rw [e]
  have hp : (4294967296 : Nat) = 2 ^ k * 2 ^ (32 - k) := by
    rw [← Nat.pow_add]
    have : k + (32 - k) = 32 := by omega
    rw [this]
  have h2 : (x * 2 ^ (32 - k)) % 4294967296 = x % 2 ^ k * 2 ^ (32 - k) := by
    rw [hp, Nat.mul_mod_mul_right]
  rw [← h2]
  simp only [Int.natCast_emod, Int.natCast_mul, Int.natCast_pow]
  rfl
theorem rot_is (x : Nat) (hx : x < 4294967296) (n : Int) : bits_Rot.f (x : Int) n = some ((it (n % 32).toNat x : Nat) : Int) := by
  unfold bits_Rot.f
  obtain ⟨k, hk, hk2⟩ : ∃ k : Nat, (n % 32).toNat = k ∧ k < 32 := ⟨_, rfl, by omega⟩
  have e : Go.bits .and .u64 (IntKind.u64.wrap n) 31 = (k : Int) := by
    rw [IntKind.wrap_u64, u64_and _ _ (by omega) (by omega) (by omega) (by omega)]
    show (((n % 18446744073709551616).toNat &&& 31 : Nat) : Int) = _
    rw [nat_mask5]
    omega
  have e2 : IntKind.u64.wrap (32 - (k : Int)) = ((32 - k : Nat) : Int) := by
    rw [IntKind.wrap_u64]
    omega
  rw [e, e2, if_pos (by omega), if_pos (by omega), hk, shl32 x k hx hk2]
  have e3 : shr .u32 (x : Int) (k : Int) = ((x / 2 ^ k : Nat) : Int) := by
    unfold shr
    have e4 : min (k : Int).toNat IntKind.u32.bits = k := by
      rw [Int.toNat_natCast]
      show min k 32 = _
      omega
    rw [e4]
    norm_cast
  have hpk : 2 ^ k * 2 ^ (32 - k) = 4294967296 := by
    rw [← Nat.pow_add]
    have : k + (32 - k) = 32 := by omega
    rw [this]
  have l1 : x / 2 ^ k < 2 ^ (32 - k) := by
    apply Nat.div_lt_of_lt_mul
    omega
  have l2 : x % 2 ^ k * 2 ^ (32 - k) < 4294967296 := by
    rw [← hpk]
    exact Nat.mul_lt_mul_of_pos_right (Nat.mod_lt _ (Nat.pow_pos (by omega))) (Nat.pow_pos (by omega))
  have l3 : x / 2 ^ k < 4294967296 := Nat.lt_of_le_of_lt (Nat.div_le_self _ _) hx
  rw [e3, u32_or_nat _ _ l3 l2, Nat.or_comm, nat_join (32 - k) _ _ (Nat.mul_mod_left _ _) l1, it_is hx k (by omega), Nat.add_comm]
theorem ref_l (n : Int) (n1 : n < 32) (d : Nat) : ∀ (k : Nat) (i : Int) (x : Nat), x < 4294967296 → 0 ≤ i → i ≤ n → n - i = d → d < k → juratref01_Rot.l0 k (x : Int) n i = some ((it d x : Nat) : Int) := by
  induction d with
  | zero =>
    intro k i x hx i0 i1 hd hk
    obtain ⟨k, rfl⟩ : ∃ m, k = m + 1 := ⟨k - 1, by omega⟩
    simp only [juratref01_Rot.l0]
    rw [if_neg (by omega)]
    rfl
  | succ d ih =>
    intro k i x hx i0 i1 hd hk
    obtain ⟨k, rfl⟩ : ∃ m, k = m + 1 := ⟨k - 1, by omega⟩
    rw [juratref01_Rot.l0, if_pos (by omega), w_in (by omega) (by omega)]
    have e : (((Int.tdiv (x : Int) 2) % 4294967296) + (((Int.tmod (x : Int) 2) * 2147483648) % 4294967296)) % 4294967296 = ((r1 x : Nat) : Int) := by
      rw [Int.tdiv_eq_ediv_of_nonneg (by omega), Int.tmod_eq_emod_of_nonneg (by omega)]
      unfold r1
      omega
    rw [e, ih k (i + 1) (r1 x) (r1_lt hx) (by omega) (by omega) (by omega) (by omega), it_add d 1 x]
    rfl
theorem BitsRots : juratlaw01_BitsRots.Pure := by
  intro a0 a1 h0 h1
  obtain ⟨x, rfl, hx⟩ := wu32 h0
  have b1 := bd h1
  obtain ⟨k, hk⟩ : ∃ k : Nat, k = 50 := ⟨_, rfl⟩
  refine ⟨k + 1, ?_⟩
  unfold juratlaw01_BitsRots.f
  rw [rot_is x hx a1]
  have er : juratref01_Rot.f (k + 1) (x : Int) a1 = some ((it (a1 % 32).toNat x : Nat) : Int) := by
    unfold juratref01_Rot.f
    by_cases c : Int.tmod a1 32 < 0
    · have t0 : a1 < 0 := by
        by_cases h : 0 ≤ a1
        · have := Int.tmod_nonneg 32 h
          omega
        · omega
      have t1 := Int.tmod_add_mul_tdiv a1 32
      have t2 : -32 < Int.tmod a1 32 := by
        have := Int.lt_tmod_of_pos a1 (show (0 : Int) < 32 by omega)
        omega
      rw [if_pos c, w_in (by omega) (by omega)]
      have e2 : Int.tmod a1 32 + 32 = a1 % 32 := by omega
      rw [e2, juratref01_Rot.j0]
      exact ref_l _ (by omega) (a1 % 32).toNat k 0 x hx (by omega) (by omega) (by omega) (by omega)
    · have t1 := Int.tmod_add_mul_tdiv a1 32
      have t2 := Int.tmod_lt_of_pos a1 (show (0 : Int) < 32 by omega)
      rw [if_neg c]
      have e2 : Int.tmod a1 32 = a1 % 32 := by omega
      rw [e2, juratref01_Rot.j0]
      exact ref_l _ (by omega) (a1 % 32).toNat k 0 x hx (by omega) (by omega) (by omega) (by omega)
  rw [er]
  simp only [Option.bind_some]
  have e1 := rot_is 1 (by omega) 1
  rw [if_pos trivial, show ((1 : Nat) : Int) = 1 from rfl] at *
  rw [e1]
  decide

end Go.Proofs.Ytdmofimhengcoaa.Pure
