/- PROVED: what the bits and the numbers of bytes come to in plain numbers, for the program and for the reference alike. No condition beyond what each line says. -/
import Derived.Test.YtdmofimhengcoaaPBitsBitsx1
import Derived.Laws.BitsAllLaws
namespace Go.Proofs.Ytdmofimhengcoaa.Pure
open Go.RowKit Go.Proofs.Ytdmofimhengcoaa.PBitsBits Go.Proofs.YtdmofimhengcoaaW.PrintWords Go.Proofs.YtdmofimhengcoaaW.PrintLast

theorem bd {a : Int} (h : (Lit.int .i64 a).wf = true) : -9223372036854775808 ≤ a ∧ a ≤ 9223372036854775807 := by
  simp [Lit.wf, IntKind.min, IntKind.max, IntKind.signed, IntKind.bits] at h
  omega
theorem bd64 {a : Int} (h : (Lit.int .u64 a).wf = true) : 0 ≤ a ∧ a < 18446744073709551616 := by
  simp [Lit.wf, IntKind.min, IntKind.max, IntKind.signed, IntKind.bits] at h
  omega
theorem bd8 {a : Int} (h : (Lit.int .u8 a).wf = true) : 0 ≤ a ∧ a < 256 := by
  simp [Lit.wf, IntKind.min, IntKind.max, IntKind.signed, IntKind.bits] at h
  omega
theorem w_in {n : Int} (h : -9223372036854775808 ≤ n) (h' : n ≤ 9223372036854775807) : wrap64 n = n := by
  unfold wrap64
  omega
/-- Bytes: each is one. -/
def Byt (l : List Int) : Prop := ∀ x ∈ l, 0 ≤ x ∧ x < 256
theorem byt_of {l : List Int} (h : ∀ x ∈ l, (Lit.int .u8 x).wf = true) : Byt l := fun x hx => bd8 (h x hx)
theorem byt_rd {l : List Int} (h : Byt l) (i : Int) (_h0 : 0 ≤ i) (h1 : i < (l.length : Int)) : 0 ≤ rd l i ∧ rd l i < 256 := by
  unfold rd
  have e : l.getD i.toNat 0 = l[i.toNat]'(by omega) := by simp [List.getD, List.getElem?_eq_getElem (show i.toNat < l.length by omega)]
  rw [e]
  exact h _ (List.getElem_mem _)
/-- The number of bytes behind a number. -/
def num (n : Int) : List Int → Int
  | [] => n
  | c :: r => num (n * 256 + c) r
theorem num_nil (n : Int) : num n [] = n := rfl
theorem num_append (n : Int) (a b : List Int) : num n (a ++ b) = num (num n a) b := by
  induction a generalizing n with
  | nil => rfl
  | cons c r ih => exact ih _
theorem num_bd (l : List Int) (h : Byt l) : ∀ n, 0 ≤ n → 0 ≤ num n l ∧ n * 256 ^ l.length ≤ num n l ∧ num n l < (n + 1) * 256 ^ l.length := by
  induction l with
  | nil => intro n hn; simp [num]; omega
  | cons c r ih =>
    intro n hn
    have hc := h c (by simp)
    have hr : Byt r := fun x hx => h x (by simp [hx])
    obtain ⟨a, b, e⟩ := ih hr (n * 256 + c) (by omega)
    have hp : (0 : Int) < 256 ^ r.length := Int.pow_pos (by omega)
    have x1 : n * 256 * 256 ^ r.length ≤ (n * 256 + c) * 256 ^ r.length := Int.mul_le_mul_of_nonneg_right (by omega) (by omega)
    have x2 : (n * 256 + c + 1) * 256 ^ r.length ≤ ((n + 1) * 256) * 256 ^ r.length := Int.mul_le_mul_of_nonneg_right (by omega) (by omega)
    have e1 : n * 256 ^ (c :: r).length = n * 256 * 256 ^ r.length := by rw [List.length_cons, Int.pow_succ, Int.mul_comm (256 ^ r.length), Int.mul_assoc]
    have e2 : (n + 1) * 256 ^ (c :: r).length = (n + 1) * 256 * 256 ^ r.length := by rw [List.length_cons, Int.pow_succ, Int.mul_comm (256 ^ r.length), Int.mul_assoc]
    rw [e1, e2]
    show 0 ≤ num (n * 256 + c) r ∧ _ ≤ num (n * 256 + c) r ∧ num (n * 256 + c) r < _
    omega
theorem num_shift (l : List Int) : ∀ n, num n l = n * 256 ^ l.length + num 0 l := by
  induction l with
  | nil => intro n; simp [num]
  | cons c r ih =>
    intro n
    show num (n * 256 + c) r = _ + num (0 * 256 + c) r
    rw [ih (n * 256 + c), ih (0 * 256 + c), List.length_cons, Int.pow_succ, Int.add_mul, Int.zero_mul, Int.zero_add, Int.mul_comm (256 ^ r.length) 256, Int.mul_assoc, Int.add_assoc]
theorem p256 (n : Nat) : (256 : Int) ^ n = ((256 ^ n : Nat) : Int) := by rw [Int.natCast_pow]; rfl
theorem p256_le {a b : Nat} (h : a ≤ b) : (256 : Int) ^ a ≤ 256 ^ b := by
  rw [p256, p256]
  exact_mod_cast Nat.pow_le_pow_right (by omega) h
theorem p256_8 : (256 : Int) ^ 8 = 18446744073709551616 := by decide
/-- The lowest 'w' bytes of a number. -/
def low (n : Int) : Nat → List Int
  | 0 => []
  | w + 1 => (n / 256 ^ w % 256) :: low n w
theorem low_length (n : Int) (w : Nat) : (low n w).length = w := by
  induction w with
  | zero => rfl
  | succ w ih => simp [low, ih]
theorem low_byt (n : Int) (w : Nat) : Byt (low n w) := by
  induction w with
  | zero => intro x hx; simp [low] at hx
  | succ w ih =>
    intro x hx
    simp only [low, List.mem_cons] at hx
    rcases hx with rfl | hx
    · omega
    · exact ih x hx
theorem emod_step (n a : Int) (ha : 0 < a) : n % (a * 256) = n / a % 256 * a + n % a := by
  have e1 : n = a * (n / a) + n % a := (Int.mul_ediv_add_emod n a).symm
  have r0 := Int.emod_nonneg n (show a ≠ 0 by omega)
  have r1 := Int.emod_lt_of_pos n ha
  generalize n % a = r at *
  generalize n / a = q at *
  have e2 : q = 256 * (q / 256) + q % 256 := by omega
  have s0 : 0 ≤ q % 256 * a := Int.mul_nonneg (by omega) (by omega)
  have s1 : q % 256 * a ≤ 255 * a := Int.mul_le_mul_of_nonneg_right (by omega) (by omega)
  have e3 : n = (q % 256 * a + r) + a * 256 * (q / 256) := by
    have e4 : a * q = a * 256 * (q / 256) + q % 256 * a := by
      conv => lhs; rw [e2]
      rw [Int.mul_add, Int.mul_assoc, Int.mul_comm a (q % 256)]
    omega
  rw [e3, Int.add_mul_emod_self_left]
  exact Int.emod_eq_of_lt (by omega) (by omega)
theorem num_low (n : Int) (w : Nat) : num 0 (low n w) = n % 256 ^ w := by
  induction w with
  | zero => simp [low, num, Int.emod_one]
  | succ w ih =>
    show num (0 * 256 + n / 256 ^ w % 256) (low n w) = _
    rw [num_shift, ih, low_length, Int.zero_mul, Int.zero_add, Int.pow_succ, emod_step _ _ (Int.pow_pos (by omega))]
theorem low_add (v r : Int) (w : Nat) : ∀ i, i ≤ w → low (v * 256 ^ w + r) i = low r i := by
  intro i
  induction i with
  | zero => intro _; rfl
  | succ i ih =>
    intro hi
    simp only [low]
    rw [ih (by omega)]
    congr 1
    obtain ⟨j, rfl⟩ : ∃ j, w = i + (j + 1) := ⟨w - i - 1, by omega⟩
    have e : v * 256 ^ (i + (j + 1)) = (v * 256 ^ j * 256) * 256 ^ i := by
      rw [Int.pow_add, Int.pow_succ, Int.mul_comm (256 ^ i), ← Int.mul_assoc, ← Int.mul_assoc]
    rw [e, Int.add_comm, Int.add_mul_ediv_right _ _ (by have := Int.pow_pos (n := 256) (m := i) (by omega); omega)]
    omega
theorem low_num (l : List Int) (h : Byt l) : low (num 0 l) l.length = l := by
  induction l with
  | nil => rfl
  | cons c r ih =>
    have hc := h c (by simp)
    have hr : Byt r := fun x hx => h x (by simp [hx])
    obtain ⟨a, _, b⟩ := num_bd r hr 0 (by omega)
    have hp : (0 : Int) < 256 ^ r.length := Int.pow_pos (by omega)
    show low (num (0 * 256 + c) r) (r.length + 1) = _
    rw [num_shift, Int.zero_mul, Int.zero_add]
    simp only [low]
    rw [low_add _ _ _ _ (Nat.le_refl _), ih hr, Int.add_comm, Int.add_mul_ediv_right _ _ (by omega), Int.ediv_eq_zero_of_lt a (by omega)]
    congr 1
    omega
/-- A number's next byte behind it, as the code lays it. -/
theorem join_byte (n c : Int) (h0 : 0 ≤ n) (h1 : n < 72057594037927936) (c0 : 0 ≤ c) (c1 : c < 256) : Go.bits .or .u64 (IntKind.u64.wrap (n * 256)) (IntKind.u64.wrap c) = n * 256 + c := by
  have e1 : IntKind.u64.wrap (n * 256) = ((n.toNat * 256 : Nat) : Int) := by rw [IntKind.wrap_u64]; omega
  have e2 : IntKind.u64.wrap c = ((c.toNat : Nat) : Int) := by rw [IntKind.wrap_u64]; omega
  rw [e1, e2, u64_or_nat _ _ (by omega) (by omega), nat_join 8 _ _ (by omega) (by omega)]
  omega
theorem take_rd (l : List Int) (i : Int) (h0 : 0 ≤ i) (h1 : i < (l.length : Int)) : l.take (i + 1).toNat = l.take i.toNat ++ [rd l i] := by
  have e : (i + 1).toNat = i.toNat + 1 := by omega
  rw [e, List.take_succ_eq_append_getElem (by omega)]
  unfold rd
  simp [List.getD, List.getElem?_eq_getElem (show i.toNat < l.length by omega)]
theorem byt_take {l : List Int} (h : Byt l) (n : Nat) : Byt (l.take n) := fun x hx => h x (List.mem_of_mem_take hx)
theorem byt_drop {l : List Int} (h : Byt l) (n : Nat) : Byt (l.drop n) := fun x hx => h x (List.mem_of_mem_drop hx)
theorem num_take_lt (l : List Int) (h : Byt l) (i : Int) (h1 : i < 8) (h2 : i < (l.length : Int)) : 0 ≤ num 0 (l.take i.toNat) ∧ num 0 (l.take i.toNat) < 72057594037927936 := by
  obtain ⟨a, _, b⟩ := num_bd (l.take i.toNat) (byt_take h _) 0 (by omega)
  have e : (256 : Int) ^ (l.take i.toNat).length ≤ 256 ^ 7 := p256_le (by rw [List.length_take]; omega)
  have e7 : (256 : Int) ^ 7 = 72057594037927936 := by decide
  omega
theorem number_l (l : List Int) (h : Byt l) (hl : l.length ≤ 8) (d : Nat) : ∀ (k : Nat) (i : Int), 0 ≤ i → i ≤ (l.length : Int) → (l.length : Int) - i = d → d < k →
    bits_Number.l0 k (num 0 (l.take i.toNat)) l (l.length : Int) i = some (num 0 l, 0) := by
  induction d with
  | zero =>
    intro k i i0 i1 hd hk
    obtain ⟨k, rfl⟩ : ∃ m, k = m + 1 := ⟨k - 1, by omega⟩
    rw [bits_Number.l0, if_neg (by omega), List.take_of_length_le (by omega)]
  | succ d ih =>
    intro k i i0 i1 hd hk
    obtain ⟨k, rfl⟩ : ∃ m, k = m + 1 := ⟨k - 1, by omega⟩
    obtain ⟨a, b⟩ := num_take_lt l h i (by omega) (by omega)
    obtain ⟨c0, c1⟩ := byt_rd h i i0 (by omega)
    rw [bits_Number.l0, if_pos (by omega), if_pos i0, if_pos (by omega), join_byte _ _ a b c0 c1, w_in (by omega) (by omega)]
    have e : num 0 (l.take i.toNat) * 256 + rd l i = num 0 (l.take (i + 1).toNat) := by
      rw [take_rd l i i0 (by omega), num_append]
      rfl
    rw [e]
    exact ih k (i + 1) (by omega) (by omega) (by omega) (by omega)
theorem number_in (k : Nat) (hk : 8 < k) (l : List Int) (h : Byt l) (hl : l.length ≤ 8) : bits_Number.f k l = some (num 0 l, 0) := by
  unfold bits_Number.f
  rw [if_neg (by omega)]
  exact number_l l h hl l.length k 0 (by omega) (by omega) (by omega) (by omega)
theorem number_out (k : Nat) (l : List Int) (hl : 8 < l.length) : bits_Number.f k l = some (0, 1) := by
  unfold bits_Number.f
  rw [if_pos (by omega)]
set_option linter.unusedVariables false
/-- The bit of a byte, from the highest on. -/
def bitv (l : List Int) (k : Int) : Int := rd l (k / 8) / 2 ^ (7 - k % 8).toNat % 2
theorem bitv_01 (l : List Int) (k : Int) : bitv l k = 0 ∨ bitv l k = 1 := by unfold bitv; omega
theorem e8 (k : Int) (h : 0 ≤ k) : k % 8 = 0 ∨ k % 8 = 1 ∨ k % 8 = 2 ∨ k % 8 = 3 ∨ k % 8 = 4 ∨ k % 8 = 5 ∨ k % 8 = 6 ∨ k % 8 = 7 := by omega
theorem and7 (k : Int) : Go.bits .and .i64 k 7 = k % 8 := by
  have h127 : (BitVec.ofInt 64 7).toNat = 2 ^ 3 - 1 := by decide
  have key : (BitVec.ofInt 64 k &&& BitVec.ofInt 64 7).toNat = (k % ((2 ^ 64 : Nat) : Int)).toNat % 2 ^ 3 := by
    rw [BitVec.toNat_and, BitVec.toNat_ofInt, h127, Nat.and_two_pow_sub_one_eq_mod]
  show IntKind.i64.wrap ((BitVec.ofInt 64 k &&& BitVec.ofInt 64 7).toNat : Nat) = k % 8
  rw [key, IntKind.wrap_i64]
  omega
theorem and1 (k : Int) : Go.bits .and .i64 k 1 = k % 2 := by
  have h127 : (BitVec.ofInt 64 1).toNat = 2 ^ 1 - 1 := by decide
  have key : (BitVec.ofInt 64 k &&& BitVec.ofInt 64 1).toNat = (k % ((2 ^ 64 : Nat) : Int)).toNat % 2 ^ 1 := by
    rw [BitVec.toNat_and, BitVec.toNat_ofInt, h127, Nat.and_two_pow_sub_one_eq_mod]
  show IntKind.i64.wrap ((BitVec.ofInt 64 k &&& BitVec.ofInt 64 1).toNat : Nat) = k % 2
  rw [key, IntKind.wrap_i64]
  omega
theorem bit_in (l : List Int) (h : Byt l) (k : Int) (k0 : 0 ≤ k) (k2 : k ≤ 9223372036854775807) (k1 : k / 8 < (l.length : Int)) : bits_Bit.f l k = some (bitv l k, 0) := by
  obtain ⟨b0, b1⟩ := byt_rd h (k / 8) (by omega) k1
  unfold bits_Bit.f bitv
  rw [if_neg (by omega), if_neg (by omega), if_pos (by omega), if_pos k1, and7 k, w_in (n := 7 - k % 8) (by omega) (by omega), if_pos (by omega)]
  have e : shr .u8 (rd l (k / 8)) (7 - k % 8) = rd l (k / 8) / 2 ^ (7 - k % 8).toNat := by
    unfold shr
    have e : min (7 - k % 8).toNat IntKind.u8.bits = (7 - k % 8).toNat := by
      show min _ 8 = _
      omega
    rw [e]
  have p0 : 0 ≤ rd l (k / 8) / 2 ^ (7 - k % 8).toNat := Int.ediv_nonneg b0 (Int.le_of_lt (Int.pow_pos (by omega)))
  have p1 : rd l (k / 8) / 2 ^ (7 - k % 8).toNat ≤ rd l (k / 8) := Int.ediv_le_self _ b0
  rw [e, w_in (by omega) (by omega), and1]
theorem refbit_l (x : Int) (x0 : 0 ≤ x) (x1 : x < 256) (d : Nat) : ∀ (k : Nat) (i : Int), 0 ≤ i → i ≤ 7 → 7 - i = d → d < k → ∀ y, 0 ≤ y → y < 256 → juratref01_Bit.l0 k y i = some (y / 2 ^ d % 2, 0) := by
  induction d with
  | zero =>
    intro k i i0 i1 hd hk y y0 y1
    obtain ⟨k, rfl⟩ : ∃ m, k = m + 1 := ⟨k - 1, by omega⟩
    rw [juratref01_Bit.l0, if_neg (by omega), Int.tmod_eq_emod_of_nonneg y0]
    simp
  | succ d ih =>
    intro k i i0 i1 hd hk y y0 y1
    obtain ⟨k, rfl⟩ : ∃ m, k = m + 1 := ⟨k - 1, by omega⟩
    rw [juratref01_Bit.l0, if_pos (by omega), Int.tdiv_eq_ediv_of_nonneg y0, w_in (n := y / 2) (by omega) (by omega), w_in (n := i + 1) (by omega) (by omega), ih k (i + 1) (by omega) (by omega) (by omega) (by omega) (y / 2) (by omega) (by omega), Int.pow_succ, Int.mul_comm, ← Int.ediv_ediv_of_nonneg (by omega)]
theorem refbit_in (k : Nat) (hk : 9 < k) (l : List Int) (h : Byt l) (i : Int) (i0 : 0 ≤ i) (i2 : i ≤ 9223372036854775807) (i1 : i / 8 < (l.length : Int)) : juratref01_Bit.f k l i = some (bitv l i, 0) := by
  obtain ⟨b0, b1⟩ := byt_rd h (i / 8) (by omega) i1
  obtain ⟨k, rfl⟩ : ∃ m, k = m + 1 := ⟨k - 1, by omega⟩
  unfold juratref01_Bit.f bitv
  rw [if_neg (by omega), Int.tdiv_eq_ediv_of_nonneg i0, w_in (n := i / 8) (by omega) (by omega), decide_eq_false (by omega), juratref01_Bit.j0, if_neg (by simp), Int.tdiv_eq_ediv_of_nonneg i0, w_in (n := i / 8) (by omega) (by omega), if_pos (by omega), if_pos i1, w_in (by omega) (by omega), Int.tmod_eq_emod_of_nonneg i0]
  have := refbit_l (rd l (i / 8)) b0 b1 (7 - i % 8).toNat k (i % 8) (by omega) (by omega) (by omega) (by omega) _ b0 b1
  exact this
theorem bit_both (k : Nat) (hk : 9 < k) (l : List Int) (h : Byt l) (hl : l.length ≤ 140737488351232) (i : Int) (i2 : i ≤ 9223372036854775807) (i3 : -9223372036854775808 ≤ i) : ∃ r1 r2, bits_Bit.f l i = some (r1, r2) ∧ juratref01_Bit.f k l i = some (r1, r2) := by
  by_cases c : i < 0
  · refine ⟨0, 1, ?_, ?_⟩
    · unfold bits_Bit.f
      rw [if_pos c]
    · obtain ⟨k, rfl⟩ : ∃ m, k = m + 1 := ⟨k - 1, by omega⟩
      unfold juratref01_Bit.f
      rw [if_pos c, juratref01_Bit.j0, if_pos rfl]
  · by_cases c2 : i / 8 < (l.length : Int)
    · exact ⟨_, _, bit_in l h i (by omega) i2 c2, refbit_in k hk l h i (by omega) i2 c2⟩
    · refine ⟨0, 1, ?_, ?_⟩
      · unfold bits_Bit.f
        rw [if_neg c, if_pos (by omega)]
      · obtain ⟨k, rfl⟩ : ∃ m, k = m + 1 := ⟨k - 1, by omega⟩
        unfold juratref01_Bit.f
        rw [if_neg c, Int.tdiv_eq_ediv_of_nonneg (by omega), w_in (n := i / 8) (by omega) (by omega), decide_eq_true (by omega), juratref01_Bit.j0, if_pos rfl]
/-- The number of the first k bits. -/
def acc (l : List Int) (k : Int) : Int := num 0 (l.take (k / 8).toNat) * 2 ^ (k % 8).toNat + rd l (k / 8) / 2 ^ (8 - k % 8).toNat
theorem acc_0 (l : List Int) (h : Byt l) : acc l 0 = 0 := by
  unfold acc
  by_cases c : l.length = 0
  · have : l = [] := List.length_eq_zero_iff.1 c
    subst this
    decide
  · obtain ⟨b0, b1⟩ := byt_rd h 0 (by omega) (by omega)
    have e : rd l 0 / 2 ^ 8 = 0 := by omega
    simp [num]
    omega
theorem acc_step (l : List Int) (h : Byt l) (hl : l.length ≤ 8) (k : Int) (k0 : 0 ≤ k) (k1 : k < 8 * (l.length : Int)) :
    acc l (k + 1) = 2 * acc l k + bitv l k ∧ 0 ≤ acc l k ∧ 2 * acc l k + bitv l k < 18446744073709551616 := by
  obtain ⟨b0, b1⟩ := byt_rd h (k / 8) (by omega) (by omega)
  obtain ⟨a, b⟩ := num_take_lt l h (k / 8) (by omega) (by omega)
  unfold acc bitv
  rcases e8 k k0 with e | e | e | e | e | e | e | e
  case inr.inr.inr.inr.inr.inr.inr =>
    have e1 : (k + 1) / 8 = k / 8 + 1 := by omega
    have e2 : (k + 1) % 8 = 0 := by omega
    have e3 : num 0 (l.take (k / 8 + 1).toNat) = num 0 (l.take (k / 8).toNat) * 256 + rd l (k / 8) := by
      rw [take_rd l (k / 8) (by omega) (by omega), num_append]
      rfl
    have e4 : rd l (k / 8 + 1) / 2 ^ (8 - (0 : Int)).toNat = 0 := by
      by_cases c : k / 8 + 1 < (l.length : Int)
      · obtain ⟨c0, c1⟩ := byt_rd h (k / 8 + 1) (by omega) c
        show _ / 256 = _
        omega
      · have : rd l (k / 8 + 1) = 0 := by
          unfold rd
          simp [List.getD, List.getElem?_eq_none (show l.length ≤ (k / 8 + 1).toNat by omega)]
        rw [this]
        decide
    rw [e1, e2, e3, e4, e]
    generalize num 0 (l.take (k / 8).toNat) = v at *
    generalize rd l (k / 8) = x at *
    show (v * 256 + x) * 1 + 0 = 2 * (v * 128 + x / 2) + x / 1 % 2 ∧ 0 ≤ v * 128 + x / 2 ∧ 2 * (v * 128 + x / 2) + x / 1 % 2 < 18446744073709551616
    omega
  all_goals
    have e1 : (k + 1) / 8 = k / 8 := by omega
    have e2 : (k + 1) % 8 = k % 8 + 1 := by omega
    rw [e1, e2, e]
    generalize num 0 (l.take (k / 8).toNat) = v at *
    generalize rd l (k / 8) = x at *
  · show v * 2 + x / 128 = 2 * (v * 1 + x / 256) + x / 128 % 2 ∧ 0 ≤ v * 1 + x / 256 ∧ 2 * (v * 1 + x / 256) + x / 128 % 2 < 18446744073709551616
    omega
  · show v * 4 + x / 64 = 2 * (v * 2 + x / 128) + x / 64 % 2 ∧ 0 ≤ v * 2 + x / 128 ∧ 2 * (v * 2 + x / 128) + x / 64 % 2 < 18446744073709551616
    omega
  · show v * 8 + x / 32 = 2 * (v * 4 + x / 64) + x / 32 % 2 ∧ 0 ≤ v * 4 + x / 64 ∧ 2 * (v * 4 + x / 64) + x / 32 % 2 < 18446744073709551616
    omega
  · show v * 16 + x / 16 = 2 * (v * 8 + x / 32) + x / 16 % 2 ∧ 0 ≤ v * 8 + x / 32 ∧ 2 * (v * 8 + x / 32) + x / 16 % 2 < 18446744073709551616
    omega
  · show v * 32 + x / 8 = 2 * (v * 16 + x / 16) + x / 8 % 2 ∧ 0 ≤ v * 16 + x / 16 ∧ 2 * (v * 16 + x / 16) + x / 8 % 2 < 18446744073709551616
    omega
  · show v * 64 + x / 4 = 2 * (v * 32 + x / 8) + x / 4 % 2 ∧ 0 ≤ v * 32 + x / 8 ∧ 2 * (v * 32 + x / 8) + x / 4 % 2 < 18446744073709551616
    omega
  · show v * 128 + x / 2 = 2 * (v * 64 + x / 4) + x / 2 % 2 ∧ 0 ≤ v * 64 + x / 4 ∧ 2 * (v * 64 + x / 4) + x / 2 % 2 < 18446744073709551616
    omega
theorem acc_all (l : List Int) : acc l (8 * (l.length : Int)) = num 0 l := by
  unfold acc
  have e1 : 8 * (l.length : Int) / 8 = l.length := by omega
  have e2 : 8 * (l.length : Int) % 8 = 0 := by omega
  have e3 : rd l (l.length : Int) = 0 := by
    unfold rd
    simp [List.getD]
  rw [e1, e2, e3]
  simp
theorem bit_64 : bits_Bit.f [64] 1 = some (1, 0) := by
  rw [bit_in [64] (by intro x hx; simp at hx; omega) 1 (by omega) (by omega) (by simp)]
  decide

end Go.Proofs.Ytdmofimhengcoaa.Pure
