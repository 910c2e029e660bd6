/- PROVED: what layer 4 writes and reads, in plain lists of numbers. No condition beyond what each line says. -/
import Derived.Test.YtnkaalapjlmmiaaPWireWritesx2
import Derived.Test.YtnkaalapjlmmiaaPWireReadsx1
import Derived.Test.YtnkaalapjlmmiaaPWireReadsx2
import Derived.Laws.BitsLemmas
namespace Go.Proofs.Ytnkaalapjlmmiaa.WirePure
open Go.RowKit Go.Proofs.Ytnkaalapjlmmiaa.PWireWrites Go.Proofs.YtnkaalapjlmmiaaW.PrintWords Go.Proofs.YtnkaalapjlmmiaaW.PrintLast Go.Proofs.YtnkaalapjlmmiaaW.PrintMore
set_option linter.unusedSimpArgs false
set_option linter.unusedVariables false
theorem bd {a : Int} (h : (Lit.int .i64 a).wf = true) : -9223372036854775808 ≤ a ∧ a ≤ 9223372036854775807 := by
  simp [Lit.wf, IntKind.min, IntKind.max, IntKind.signed, IntKind.bits] at h
  omega
theorem bd64 {a : Int} (h : (Lit.int .u64 a).wf = true) : 0 ≤ a ∧ a < 18446744073709551616 := by
  simp [Lit.wf, IntKind.min, IntKind.max, IntKind.signed, IntKind.bits] at h
  omega
theorem bd8 {a : Int} (h : (Lit.int .u8 a).wf = true) : 0 ≤ a ∧ a < 256 := by
  simp [Lit.wf, IntKind.min, IntKind.max, IntKind.signed, IntKind.bits] at h
  omega
theorem w_in {n : Int} (h : -9223372036854775808 ≤ n) (h' : n ≤ 9223372036854775807) : wrap64 n = n := by
  unfold wrap64
  omega
/-- Bytes: each is one. -/
def Byt (l : List Int) : Prop := ∀ x ∈ l, 0 ≤ x ∧ x < 256
theorem byt_of {l : List Int} (h : ∀ x ∈ l, (Lit.int .u8 x).wf = true) : Byt l := fun x hx => bd8 (h x hx)
theorem byt_rd {l : List Int} (h : Byt l) (i : Int) (_h0 : 0 ≤ i) (h1 : i < (l.length : Int)) : 0 ≤ rd l i ∧ rd l i < 256 := by
  unfold rd
  have e : l.getD i.toNat 0 = l[i.toNat]'(by omega) := by simp [List.getD, List.getElem?_eq_getElem (show i.toNat < l.length by omega)]
  rw [e]
  exact h _ (List.getElem_mem _)
/-- The number of bytes behind a number. -/
def num (n : Int) : List Int → Int
  | [] => n
  | c :: r => num (n * 256 + c) r
theorem num_nil (n : Int) : num n [] = n := rfl
theorem num_append (n : Int) (a b : List Int) : num n (a ++ b) = num (num n a) b := by
  induction a generalizing n with
  | nil => rfl
  | cons c r ih => exact ih _
theorem num_bd (l : List Int) (h : Byt l) : ∀ n, 0 ≤ n → 0 ≤ num n l ∧ n * 256 ^ l.length ≤ num n l ∧ num n l < (n + 1) * 256 ^ l.length := by
  induction l with
  | nil => intro n hn; simp [num]; omega
  | cons c r ih =>
    intro n hn
    have hc := h c (by simp)
    have hr : Byt r := fun x hx => h x (by simp [hx])
    obtain ⟨a, b, e⟩ := ih hr (n * 256 + c) (by omega)
    have hp : (0 : Int) < 256 ^ r.length := Int.pow_pos (by omega)
    have x1 : n * 256 * 256 ^ r.length ≤ (n * 256 + c) * 256 ^ r.length := Int.mul_le_mul_of_nonneg_right (by omega) (by omega)
    have x2 : (n * 256 + c + 1) * 256 ^ r.length ≤ ((n + 1) * 256) * 256 ^ r.length := Int.mul_le_mul_of_nonneg_right (by omega) (by omega)
    have e1 : n * 256 ^ (c :: r).length = n * 256 * 256 ^ r.length := by rw [List.length_cons, Int.pow_succ, Int.mul_comm (256 ^ r.length), Int.mul_assoc]
    have e2 : (n + 1) * 256 ^ (c :: r).length = (n + 1) * 256 * 256 ^ r.length := by rw [List.length_cons, Int.pow_succ, Int.mul_comm (256 ^ r.length), Int.mul_assoc]
    rw [e1, e2]
    show 0 ≤ num (n * 256 + c) r ∧ _ ≤ num (n * 256 + c) r ∧ num (n * 256 + c) r < _
    omega
theorem num_shift (l : List Int) : ∀ n, num n l = n * 256 ^ l.length + num 0 l := by
  induction l with
  | nil => intro n; simp [num]
  | cons c r ih =>
    intro n
    show num (n * 256 + c) r = _ + num (0 * 256 + c) r
    rw [ih (n * 256 + c), ih (0 * 256 + c), List.length_cons, Int.pow_succ, Int.add_mul, Int.zero_mul, Int.zero_add, Int.mul_comm (256 ^ r.length) 256, Int.mul_assoc, Int.add_assoc]
theorem p256 (n : Nat) : (256 : Int) ^ n = ((256 ^ n : Nat) : Int) := by rw [Int.natCast_pow]; rfl
theorem p256_le {a b : Nat} (h : a ≤ b) : (256 : Int) ^ a ≤ 256 ^ b := by
  rw [p256, p256]
  exact_mod_cast Nat.pow_le_pow_right (by omega) h
theorem p256_8 : (256 : Int) ^ 8 = 18446744073709551616 := by decide
/-- The lowest 'w' bytes of a number. -/
def low (n : Int) : Nat → List Int
  | 0 => []
  | w + 1 => (n / 256 ^ w % 256) :: low n w
theorem low_length (n : Int) (w : Nat) : (low n w).length = w := by
  induction w with
  | zero => rfl
  | succ w ih => simp [low, ih]
theorem low_byt (n : Int) (w : Nat) : Byt (low n w) := by
  induction w with
  | zero => intro x hx; simp [low] at hx
  | succ w ih =>
    intro x hx
    simp only [low, List.mem_cons] at hx
    rcases hx with rfl | hx
    · omega
    · exact ih x hx
theorem emod_step (n a : Int) (ha : 0 < a) : n % (a * 256) = n / a % 256 * a + n % a := by
  have e1 : n = a * (n / a) + n % a := (Int.mul_ediv_add_emod n a).symm
  have r0 := Int.emod_nonneg n (show a ≠ 0 by omega)
  have r1 := Int.emod_lt_of_pos n ha
  generalize n % a = r at *
  generalize n / a = q at *
  have e2 : q = 256 * (q / 256) + q % 256 := by omega
  have s0 : 0 ≤ q % 256 * a := Int.mul_nonneg (by omega) (by omega)
  have s1 : q % 256 * a ≤ 255 * a := Int.mul_le_mul_of_nonneg_right (by omega) (by omega)
  have e3 : n = (q % 256 * a + r) + a * 256 * (q / 256) := by
    have e4 : a * q = a * 256 * (q / 256) + q % 256 * a := by
      conv => lhs; rw [e2]
      rw [Int.mul_add, Int.mul_assoc, Int.mul_comm a (q % 256)]
    omega
  rw [e3, Int.add_mul_emod_self_left]
  exact Int.emod_eq_of_lt (by omega) (by omega)
theorem num_low (n : Int) (w : Nat) : num 0 (low n w) = n % 256 ^ w := by
  induction w with
  | zero => simp [low, num, Int.emod_one]
  | succ w ih =>
    show num (0 * 256 + n / 256 ^ w % 256) (low n w) = _
    rw [num_shift, ih, low_length, Int.zero_mul, Int.zero_add, Int.pow_succ, emod_step _ _ (Int.pow_pos (by omega))]
theorem low_add (v r : Int) (w : Nat) : ∀ i, i ≤ w → low (v * 256 ^ w + r) i = low r i := by
  intro i
  induction i with
  | zero => intro _; rfl
  | succ i ih =>
    intro hi
    simp only [low]
    rw [ih (by omega)]
    congr 1
    obtain ⟨j, rfl⟩ : ∃ j, w = i + (j + 1) := ⟨w - i - 1, by omega⟩
    have e : v * 256 ^ (i + (j + 1)) = (v * 256 ^ j * 256) * 256 ^ i := by
      rw [Int.pow_add, Int.pow_succ, Int.mul_comm (256 ^ i), ← Int.mul_assoc, ← Int.mul_assoc]
    rw [e, Int.add_comm, Int.add_mul_ediv_right _ _ (by have := Int.pow_pos (n := 256) (m := i) (by omega); omega)]
    omega
theorem low_num (l : List Int) (h : Byt l) : low (num 0 l) l.length = l := by
  induction l with
  | nil => rfl
  | cons c r ih =>
    have hc := h c (by simp)
    have hr : Byt r := fun x hx => h x (by simp [hx])
    obtain ⟨a, _, b⟩ := num_bd r hr 0 (by omega)
    have hp : (0 : Int) < 256 ^ r.length := Int.pow_pos (by omega)
    show low (num (0 * 256 + c) r) (r.length + 1) = _
    rw [num_shift, Int.zero_mul, Int.zero_add]
    simp only [low]
    rw [low_add _ _ _ _ (Nat.le_refl _), ih hr, Int.add_comm, Int.add_mul_ediv_right _ _ (by omega), Int.ediv_eq_zero_of_lt a (by omega)]
    congr 1
    omega
/-- A number's next byte behind it, as the code lays it. -/
theorem join_byte (n c : Int) (h0 : 0 ≤ n) (h1 : n < 72057594037927936) (c0 : 0 ≤ c) (c1 : c < 256) : Go.bits .or .u64 (IntKind.u64.wrap (n * 256)) (IntKind.u64.wrap c) = n * 256 + c := by
  have e1 : IntKind.u64.wrap (n * 256) = ((n.toNat * 256 : Nat) : Int) := by rw [IntKind.wrap_u64]; omega
  have e2 : IntKind.u64.wrap c = ((c.toNat : Nat) : Int) := by rw [IntKind.wrap_u64]; omega
  rw [e1, e2, u64_or_nat _ _ (by omega) (by omega), nat_join 8 _ _ (by omega) (by omega)]
  omega
theorem take_rd (l : List Int) (i : Int) (h0 : 0 ≤ i) (h1 : i < (l.length : Int)) : l.take (i + 1).toNat = l.take i.toNat ++ [rd l i] := by
  have e : (i + 1).toNat = i.toNat + 1 := by omega
  rw [e, List.take_succ_eq_append_getElem (by omega)]
  unfold rd
  simp [List.getD, List.getElem?_eq_getElem (show i.toNat < l.length by omega)]
theorem byt_take {l : List Int} (h : Byt l) (n : Nat) : Byt (l.take n) := fun x hx => h x (List.mem_of_mem_take hx)
theorem byt_drop {l : List Int} (h : Byt l) (n : Nat) : Byt (l.drop n) := fun x hx => h x (List.mem_of_mem_drop hx)
theorem num_take_lt (l : List Int) (h : Byt l) (i : Int) (h1 : i < 8) (h2 : i < (l.length : Int)) : 0 ≤ num 0 (l.take i.toNat) ∧ num 0 (l.take i.toNat) < 72057594037927936 := by
  obtain ⟨a, _, b⟩ := num_bd (l.take i.toNat) (byt_take h _) 0 (by omega)
  have e : (256 : Int) ^ (l.take i.toNat).length ≤ 256 ^ 7 := p256_le (by rw [List.length_take]; omega)
  have e7 : (256 : Int) ^ 7 = 72057594037927936 := by decide
  omega
theorem number_l (l : List Int) (h : Byt l) (hl : l.length ≤ 8) (d : Nat) : ∀ (k : Nat) (i : Int), 0 ≤ i → i ≤ (l.length : Int) → (l.length : Int) - i = d → d < k →
    bits_Number.l0 k (num 0 (l.take i.toNat)) l (l.length : Int) i = some (num 0 l, 0) := by
  induction d with
  | zero =>
    intro k i i0 i1 hd hk
    obtain ⟨k, rfl⟩ : ∃ m, k = m + 1 := ⟨k - 1, by omega⟩
    rw [bits_Number.l0, if_neg (by omega), List.take_of_length_le (by omega)]
  | succ d ih =>
    intro k i i0 i1 hd hk
    obtain ⟨k, rfl⟩ : ∃ m, k = m + 1 := ⟨k - 1, by omega⟩
    obtain ⟨a, b⟩ := num_take_lt l h i (by omega) (by omega)
    obtain ⟨c0, c1⟩ := byt_rd h i i0 (by omega)
    rw [bits_Number.l0, if_pos (by omega), if_pos i0, if_pos (by omega), join_byte _ _ a b c0 c1, w_in (by omega) (by omega)]
    have e : num 0 (l.take i.toNat) * 256 + rd l i = num 0 (l.take (i + 1).toNat) := by
      rw [take_rd l i i0 (by omega), num_append]
      rfl
    rw [e]
    exact ih k (i + 1) (by omega) (by omega) (by omega) (by omega)
theorem number_in (k : Nat) (hk : 8 < k) (l : List Int) (h : Byt l) (hl : l.length ≤ 8) : bits_Number.f k l = some (num 0 l, 0) := by
  unfold bits_Number.f
  rw [if_neg (by omega)]
  exact number_l l h hl l.length k 0 (by omega) (by omega) (by omega) (by omega)
theorem number_out (k : Nat) (l : List Int) (hl : 8 < l.length) : bits_Number.f k l = some (0, 1) := by
  unfold bits_Number.f
  rw [if_pos (by omega)]
theorem shr_low (n : Int) (i : Int) (i0 : 0 ≤ i) (i1 : i < 8) : shr .u64 n (8 * i) = n / 256 ^ i.toNat := by
  unfold shr
  have e : min (8 * i).toNat IntKind.u64.bits = 8 * i.toNat := by
    show min (8 * i).toNat 64 = _
    omega
  rw [e, Int.pow_mul]
  rfl
theorem set_low (m : Nat) (v : Int) (r : List Int) : (List.replicate (m + 1) (0 : Int) ++ r).set m v = List.replicate m 0 ++ v :: r := by
  rw [List.replicate_succ', List.append_assoc]
  rw [List.set_append_right _ _ (by simp)]
  simp
theorem bytes_l (n w : Int) (w0 : 0 ≤ w) (w1 : w ≤ 8) (d : Nat) : ∀ (k : Nat) (i : Int), 0 ≤ i → i ≤ w → w - i = d → d < k →
    bits_Bytes.l0 k n w (List.replicate (w - i).toNat 0 ++ low n i.toNat) w i = some (low n w.toNat, 0) := by
  induction d with
  | zero =>
    intro k i i0 i1 hd hk
    obtain ⟨k, rfl⟩ : ∃ m, k = m + 1 := ⟨k - 1, by omega⟩
    obtain rfl : i = w := by omega
    rw [bits_Bytes.l0, if_neg (by omega)]
    simp
  | succ d ih =>
    intro k i i0 i1 hd hk
    obtain ⟨k, rfl⟩ : ∃ m, k = m + 1 := ⟨k - 1, by omega⟩
    rw [bits_Bytes.l0, if_pos (by omega), w_in (n := 8 * i) (by omega) (by omega), if_pos (by omega), w_in (n := w - 1) (by omega) (by omega), w_in (n := w - 1 - i) (by omega) (by omega), if_pos (by omega),
      if_pos (by simp [low_length]; omega), shr_low n i i0 (by omega), w_in (n := i + 1) (by omega) (by omega)]
    have e : (w - i).toNat = (w - 1 - i).toNat + 1 := by omega
    rw [e, set_low]
    have e2 : (w - 1 - i).toNat = (w - (i + 1)).toNat := by omega
    have e3 : n / 256 ^ i.toNat % 256 :: low n i.toNat = low n (i + 1).toNat := by
      have : (i + 1).toNat = i.toNat + 1 := by omega
      rw [this]
      rfl
    rw [e2, e3]
    exact ih k (i + 1) (by omega) (by omega) (by omega) (by omega)
theorem bytes_in (k : Nat) (hk : 9 < k) (n w : Int) (w0 : 0 ≤ w) (w1 : w ≤ 8) : bits_Bytes.f k n w = some (low n w.toNat, 0) := by
  obtain ⟨k, rfl⟩ : ∃ m, k = m + 1 := ⟨k - 1, by omega⟩
  unfold bits_Bytes.f
  rw [if_neg (by omega), decide_eq_false (by omega), bits_Bytes.j0, if_neg (by simp), if_pos w0, if_pos (by omega)]
  have := bytes_l n w w0 w1 w.toNat k 0 (by omega) (by omega) (by omega) (by omega)
  simpa [low] using this
theorem bytes_out (k : Nat) (hk : 0 < k) (n w : Int) (h : w < 0 ∨ 8 < w) : bits_Bytes.f k n w = some ([], 1) := by
  obtain ⟨k, rfl⟩ : ∃ m, k = m + 1 := ⟨k - 1, by omega⟩
  unfold bits_Bytes.f
  by_cases c : w < 0
  · rw [if_pos c, bits_Bytes.j0, if_pos rfl]
  · rw [if_neg c, decide_eq_true (by omega), bits_Bytes.j0, if_pos rfl]
theorem same_l (l : List Int) (hm : l.length ≤ 9223372036854775800) (d : Nat) : ∀ (k : Nat) (i : Int), 0 ≤ i → i ≤ (l.length : Int) → (l.length : Int) - i = d → d < k → juratref01_Same.l0 k l l i = some true := by
  induction d with
  | zero =>
    intro k i i0 i1 hd hk
    obtain ⟨k, rfl⟩ : ∃ m, k = m + 1 := ⟨k - 1, by omega⟩
    rw [juratref01_Same.l0, if_neg (by omega)]
  | succ d ih =>
    intro k i i0 i1 hd hk
    obtain ⟨k, rfl⟩ : ∃ m, k = m + 1 := ⟨k - 1, by omega⟩
    rw [juratref01_Same.l0, if_pos (by omega), if_pos i0, if_pos (by omega), if_pos rfl, w_in (by omega) (by omega)]
    exact ih k (i + 1) (by omega) (by omega) (by omega) (by omega)
theorem same_self (k : Nat) (l : List Int) (hm : l.length ≤ 9223372036854775800) (hk : l.length < k) : juratref01_Same.f k l l = some true := by
  unfold juratref01_Same.f
  rw [if_pos rfl]
  exact same_l l hm l.length k 0 (by omega) (by omega) (by omega) hk
theorem same_l' (l : List Int) (hm : l.length ≤ 9223372036854775800) (d : Nat) : ∀ (k : Nat) (i : Int), 0 ≤ i → i ≤ (l.length : Int) → (l.length : Int) - i = d → d < k → PWireReads.juratref01_Same.l0 k l l i = some true := by
  induction d with
  | zero =>
    intro k i i0 i1 hd hk
    obtain ⟨k, rfl⟩ : ∃ m, k = m + 1 := ⟨k - 1, by omega⟩
    rw [PWireReads.juratref01_Same.l0, if_neg (by omega)]
  | succ d ih =>
    intro k i i0 i1 hd hk
    obtain ⟨k, rfl⟩ : ∃ m, k = m + 1 := ⟨k - 1, by omega⟩
    rw [PWireReads.juratref01_Same.l0, if_pos (by omega), if_pos i0, if_pos (by omega), if_pos rfl, w_in (by omega) (by omega)]
    exact ih k (i + 1) (by omega) (by omega) (by omega) (by omega)
theorem same_self' (k : Nat) (l : List Int) (hm : l.length ≤ 9223372036854775800) (hk : l.length < k) : PWireReads.juratref01_Same.f k l l = some true := by
  unfold PWireReads.juratref01_Same.f
  rw [if_pos rfl]
  exact same_l' l hm l.length k 0 (by omega) (by omega) (by omega) hk
theorem ref_number_l (l : List Int) (h : Byt l) (hl : l.length ≤ 8) (d : Nat) : ∀ (k : Nat) (i : Int), 0 ≤ i → i ≤ (l.length : Int) → (l.length : Int) - i = d → d < k →
    PWireReads.juratref01_Number.l0 k l (num 0 (l.take i.toNat)) i = some (num 0 l, 0) := by
  induction d with
  | zero =>
    intro k i i0 i1 hd hk
    obtain ⟨k, rfl⟩ : ∃ m, k = m + 1 := ⟨k - 1, by omega⟩
    rw [PWireReads.juratref01_Number.l0, if_neg (by omega), List.take_of_length_le (by omega)]
  | succ d ih =>
    intro k i i0 i1 hd hk
    obtain ⟨k, rfl⟩ : ∃ m, k = m + 1 := ⟨k - 1, by omega⟩
    obtain ⟨a, b⟩ := num_take_lt l h i (by omega) (by omega)
    obtain ⟨c0, c1⟩ := byt_rd h i i0 (by omega)
    rw [PWireReads.juratref01_Number.l0, if_pos (by omega), if_pos i0, w_in (by omega) (by omega)]
    have e : IntKind.u64.wrap (IntKind.u64.wrap (num 0 (l.take i.toNat) * 256) + IntKind.u64.wrap (rd l i)) = num 0 (l.take (i + 1).toNat) := by
      rw [take_rd l i i0 (by omega), num_append]
      show _ = num 0 (l.take i.toNat) * 256 + rd l i
      rw [IntKind.wrap_u64, IntKind.wrap_u64, IntKind.wrap_u64]
      omega
    rw [e]
    exact ih k (i + 1) (by omega) (by omega) (by omega) (by omega)
theorem ref_number_in (k : Nat) (hk : 8 < k) (l : List Int) (h : Byt l) (hl : l.length ≤ 8) : PWireReads.juratref01_Number.f k l = some (num 0 l, 0) := by
  unfold PWireReads.juratref01_Number.f
  rw [if_neg (by omega)]
  exact ref_number_l l h hl l.length k 0 (by omega) (by omega) (by omega) (by omega)
theorem ref_number_out (k : Nat) (l : List Int) (hl : 8 < l.length) : PWireReads.juratref01_Number.f k l = some (0, 1) := by
  unfold PWireReads.juratref01_Number.f
  rw [if_pos (by omega)]
theorem div_step (n : Int) (i : Nat) (_n0 : 0 ≤ n) : n / 256 ^ i / 256 = n / 256 ^ (i + 1) := by
  rw [Int.pow_succ, Int.ediv_ediv_of_nonneg (Int.le_of_lt (Int.pow_pos (by omega)))]
theorem ref_bytes_l (n w : Int) (n0 : 0 ≤ n) (n1 : n < 18446744073709551616) (w1 : w ≤ 8) (d : Nat) : ∀ (k : Nat) (i : Int), 0 ≤ i → i ≤ w → w - i = d → d < k →
    juratref01_Bytes.l0 k (n / 256 ^ i.toNat) w (low n i.toNat) i = some (low n w.toNat, 0) := by
  induction d with
  | zero =>
    intro k i i0 i1 hd hk
    obtain ⟨k, rfl⟩ : ∃ m, k = m + 1 := ⟨k - 1, by omega⟩
    obtain rfl : i = w := by omega
    rw [juratref01_Bytes.l0, if_neg (by omega)]
  | succ d ih =>
    intro k i i0 i1 hd hk
    obtain ⟨k, rfl⟩ : ∃ m, k = m + 1 := ⟨k - 1, by omega⟩
    have q0 : 0 ≤ n / 256 ^ i.toNat := Int.ediv_nonneg n0 (Int.le_of_lt (Int.pow_pos (by omega)))
    have q1 : n / 256 ^ i.toNat ≤ n := Int.ediv_le_self _ n0
    rw [juratref01_Bytes.l0, if_pos (by omega), w_in (by omega) (by omega)]
    simp only [Option.bind_some]
    rw [if_pos (by simp [low_length]; omega), Int.tmod_eq_emod_of_nonneg q0, Int.tdiv_eq_ediv_of_nonneg q0, IntKind.wrap_u64]
    have e : (n / 256 ^ i.toNat / 256) % 18446744073709551616 = n / 256 ^ (i + 1).toNat := by
      have e1 : (i + 1).toNat = i.toNat + 1 := by omega
      rw [e1, ← div_step n _ n0]
      omega
    have e2 : [n / 256 ^ i.toNat % 256 % 256] ++ low n i.toNat = low n (i + 1).toNat := by
      have e1 : (i + 1).toNat = i.toNat + 1 := by omega
      rw [e1]
      show _ :: _ = _ :: _
      congr 1
      omega
    rw [e, e2]
    exact ih k (i + 1) (by omega) (by omega) (by omega) (by omega)
theorem ref_bytes_in (k : Nat) (hk : 9 < k) (n w : Int) (n0 : 0 ≤ n) (n1 : n < 18446744073709551616) (w0 : 0 ≤ w) (w1 : w ≤ 8) : juratref01_Bytes.f k n w = some (low n w.toNat, 0) := by
  obtain ⟨k, rfl⟩ : ∃ m, k = m + 1 := ⟨k - 1, by omega⟩
  unfold juratref01_Bytes.f
  rw [if_neg (by omega), decide_eq_false (by omega), juratref01_Bytes.j0, if_neg (by simp)]
  have := ref_bytes_l n w n0 n1 w1 w.toNat k 0 (by omega) (by omega) (by omega) (by omega)
  simpa [low] using this
theorem ref_bytes_out (k : Nat) (hk : 0 < k) (n w : Int) (h : w < 0 ∨ 8 < w) : juratref01_Bytes.f k n w = some ([], 1) := by
  obtain ⟨k, rfl⟩ : ∃ m, k = m + 1 := ⟨k - 1, by omega⟩
  unfold juratref01_Bytes.f
  by_cases c : w < 0
  · rw [if_pos c, juratref01_Bytes.j0, if_pos rfl]
  · rw [if_neg c, decide_eq_true (by omega), juratref01_Bytes.j0, if_pos rfl]
/-- A number's width: how many bytes it has. -/
def widF : Nat → Int → Nat
  | 0, _ => 0
  | k + 1, n => if n / 256 ^ k ≠ 0 then k + 1 else widF k n
def wid (n : Int) : Nat := widF 8 n
theorem widF_le (k : Nat) (n : Int) : widF k n ≤ k := by
  induction k with
  | zero => exact Nat.le_refl _
  | succ k ih =>
    unfold widF
    split
    · exact Nat.le_refl _
    · omega
theorem div_zero_iff (n : Int) (k : Nat) (h : 0 ≤ n) : n / 256 ^ k = 0 ↔ n < 256 ^ k := by
  have hp : (0 : Int) < 256 ^ k := Int.pow_pos (by omega)
  constructor
  · intro e
    have := Int.lt_ediv_add_one_mul_self n hp
    rw [e] at this
    omega
  · intro e
    exact Int.ediv_eq_zero_of_lt h e
theorem widF_lt (k : Nat) (n : Int) (h0 : 0 ≤ n) (h : n < 256 ^ k) : n < 256 ^ widF k n := by
  induction k with
  | zero => exact h
  | succ k ih =>
    unfold widF
    split
    · exact h
    · rename_i hz
      exact ih ((div_zero_iff n k h0).1 (Decidable.not_not.1 hz))
theorem widF_ge (k : Nat) (n : Int) (h0 : 0 ≤ n) : widF k n = 0 ∨ 256 ^ (widF k n - 1) ≤ n := by
  induction k with
  | zero => exact .inl rfl
  | succ k ih =>
    unfold widF
    split
    · rename_i hz
      have := mt (div_zero_iff n k h0).2 hz
      exact .inr (by show 256 ^ k ≤ n; omega)
    · exact ih
theorem wid_le (n : Int) : wid n ≤ 8 := widF_le 8 n
theorem wid_lt (n : Int) (h0 : 0 ≤ n) (h : n < 18446744073709551616) : n < 256 ^ wid n := widF_lt 8 n h0 (by rw [p256_8]; exact h)
theorem wid_ge (n : Int) (h0 : 0 ≤ n) : wid n = 0 ∨ 256 ^ (wid n - 1) ≤ n := widF_ge 8 n h0
theorem wid_uniq {n : Int} {w v : Nat} (h1 : n < 256 ^ w) (h2 : w = 0 ∨ 256 ^ (w - 1) ≤ n) (h3 : n < 256 ^ v) (h4 : v = 0 ∨ 256 ^ (v - 1) ≤ n) : w = v := by
  rcases Nat.lt_trichotomy w v with h | h | h
  · rcases h4 with h4 | h4
    · omega
    · have := p256_le (show w ≤ v - 1 by omega)
      omega
  · exact h
  · rcases h2 with h2 | h2
    · omega
    · have := p256_le (show v ≤ w - 1 by omega)
      omega
/-- A number's bytes. -/
def numB (n : Int) : List Int := (wid n : Int) :: low n (wid n)
theorem numB_length (n : Int) : (numB n).length = wid n + 1 := by unfold numB; rw [List.length_cons, low_length]
theorem numB_le (n : Int) : (numB n).length ≤ 9 := by have := wid_le n; rw [numB_length]; omega
theorem numB_byt (n : Int) : Byt (numB n) := by
  intro x hx
  unfold numB at hx
  rw [List.mem_cons] at hx
  rcases hx with rfl | hx
  · have := wid_le n; omega
  · exact low_byt n _ x hx
/-- A text's bytes, a list's bytes. -/
def textB (t : List Int) : List Int := numB (t.length : Int) ++ t
def textsB : List (List Int) → List Int
  | [] => []
  | t :: r => textB t ++ textsB r
def listB (l : List (List Int)) : List Int := numB (l.length : Int) ++ textsB l
theorem bytes_append (n : Int) (h0 : 0 ≤ n) : [(wid n : Int) % 256] ++ low n (wid n) = numB n := by
  have := wid_le n
  unfold numB
  rw [Int.emod_eq_of_lt (by omega) (by omega)]
  rfl
theorem ref_num_l (n : Int) (n0 : 0 ≤ n) (n1 : n < 18446744073709551616) (d : Nat) : ∀ (k w : Nat), w + d = wid n → d + 10 < k → juratref04_Num.l0 k n (w : Int) (n / 256 ^ w) = some (numB n) := by
  induction d with
  | zero =>
    intro k w hw hk
    obtain ⟨k, rfl⟩ : ∃ m, k = m + 1 := ⟨k - 1, by omega⟩
    obtain rfl : w = wid n := by omega
    have hw8 := wid_le n
    have hz : n / 256 ^ wid n = 0 := (div_zero_iff _ _ n0).2 (wid_lt n n0 n1)
    rw [juratref04_Num.l0, hz, if_neg (by omega), ref_bytes_in k (by omega) n _ n0 n1 (by omega) (by omega)]
    simp only [Option.bind_some, Int.toNat_natCast]
    rw [if_pos (by simp [low_length]; omega), bytes_append n n0]
  | succ d ih =>
    intro k w hw hk
    obtain ⟨k, rfl⟩ : ∃ m, k = m + 1 := ⟨k - 1, by omega⟩
    have hw8 := wid_le n
    have hp : 256 ^ w ≤ n := by
      rcases wid_ge n n0 with h | h
      · omega
      · have := p256_le (show w ≤ wid n - 1 by omega)
        omega
    have hz : n / 256 ^ w ≠ 0 := fun e => by have := (div_zero_iff _ _ n0).1 e; omega
    have q0 : 0 ≤ n / 256 ^ w := Int.ediv_nonneg n0 (Int.le_of_lt (Int.pow_pos (by omega)))
    have q1 : n / 256 ^ w ≤ n := Int.ediv_le_self _ n0
    rw [juratref04_Num.l0, if_pos (by omega), w_in (by omega) (by omega), Int.tdiv_eq_ediv_of_nonneg q0, IntKind.wrap_u64]
    have e : (n / 256 ^ w / 256) % 18446744073709551616 = n / 256 ^ (w + 1) := by
      rw [← div_step n _ n0]
      omega
    rw [e]
    have := ih k (w + 1) (by omega) (by omega)
    rw [show ((w + 1 : Nat) : Int) = (w : Int) + 1 by omega] at this
    exact this
theorem ref_num (k : Nat) (hk : 20 < k) (n : Int) (n0 : 0 ≤ n) (n1 : n < 18446744073709551616) : juratref04_Num.f k n = some (numB n) := by
  have hw8 := wid_le n
  have := ref_num_l n n0 n1 (wid n) k 0 (by omega) (by omega)
  unfold juratref04_Num.f
  simpa using this
theorem u64_in (n : Nat) (h : n < 18446744073709551616) : IntKind.u64.wrap (n : Int) = n := by rw [IntKind.wrap_u64]; omega
theorem ref_text (k : Nat) (hk : 20 < k) (t : List Int) (h : t.length ≤ 1000000) : juratref04_Text.f k t = some (textB t) := by
  unfold juratref04_Text.f
  rw [u64_in _ (by omega), ref_num k hk _ (by omega) (by omega)]
  simp only [Option.bind_some]
  have := numB_le (t.length : Int)
  rw [if_pos (by omega)]
  rfl
theorem textB_le (t : List Int) (n : Nat) (h : t.length ≤ n) : (textB t).length ≤ n + 9 := by
  unfold textB
  have := numB_le (t.length : Int)
  rw [List.length_append]
  omega
theorem textsB_append (a b : List (List Int)) : textsB (a ++ b) = textsB a ++ textsB b := by
  induction a with
  | nil => rfl
  | cons t a ih => simp only [List.cons_append, textsB, ih, List.append_assoc]
theorem textsB_le (l : List (List Int)) (n : Nat) (h : ∀ t ∈ l, t.length ≤ n) : (textsB l).length ≤ l.length * (n + 9) := by
  induction l with
  | nil => simp [textsB]
  | cons t l ih =>
    have h1 := textB_le t n (h t List.mem_cons_self)
    have h2 := ih (fun x hx => h x (List.mem_cons_of_mem _ hx))
    simp only [textsB, List.length_append, List.length_cons, Nat.add_mul]
    omega
theorem rd_L1_at (l : List (List Int)) (i : Nat) (hi : i < l.length) : rd_L1 l (i : Int) = l[i] := by
  unfold rd_L1
  simp [List.getD, List.getElem?_eq_getElem hi]
theorem take_texts (l : List (List Int)) (i : Nat) (hi : i < l.length) : textsB (l.take (i + 1)) = textsB (l.take i) ++ textB l[i] := by
  rw [List.take_succ_eq_append_getElem hi, textsB_append]
  simp [textsB]
theorem ref_list_l (l : List (List Int)) (h1 : l.length ≤ 1000) (h2 : ∀ t ∈ l, t.length ≤ 1000) (d : Nat) : ∀ (k i : Nat), i + d = l.length → d + 30 < k →
    juratref04_List.l0 k l (numB (l.length : Int) ++ textsB (l.take i)) (i : Int) = some (listB l) := by
  induction d with
  | zero =>
    intro k i hi hk
    obtain ⟨k, rfl⟩ : ∃ m, k = m + 1 := ⟨k - 1, by omega⟩
    rw [juratref04_List.l0, if_neg (by omega), List.take_of_length_le (by omega)]
    rfl
  | succ d ih =>
    intro k i hi hk
    obtain ⟨k, rfl⟩ : ∃ m, k = m + 1 := ⟨k - 1, by omega⟩
    have hil : i < l.length := by omega
    have ht := h2 _ (List.getElem_mem hil)
    have b1 := textB_le l[i] 1000 ht
    have b2 := numB_le (l.length : Int)
    have b3 := textsB_le (l.take i) 1000 (fun t ht => h2 t (List.mem_of_mem_take ht))
    have b4 : (l.take i).length * (1000 + 9) ≤ 1000 * 1009 := Nat.mul_le_mul (by rw [List.length_take]; omega) (by omega)
    rw [juratref04_List.l0, if_pos (by omega), if_pos (by omega), rd_L1_at l i hil, ref_text k (by omega) _ (by omega)]
    simp only [Option.bind_some]
    rw [if_pos (by rw [List.length_append]; omega), List.append_assoc, ← take_texts l i hil, w_in (by omega) (by omega)]
    have := ih k (i + 1) (by omega) (by omega)
    rw [show ((i + 1 : Nat) : Int) = (i : Int) + 1 by omega] at this
    exact this
theorem ref_list (l : List (List Int)) (h1 : l.length ≤ 1000) (h2 : ∀ t ∈ l, t.length ≤ 1000) : juratref04_List.f 2000 l = some (listB l) := by
  unfold juratref04_List.f
  rw [u64_in _ (by omega), ref_num 2000 (by omega) _ (by omega) (by omega)]
  simp only [Option.bind_some]
  have := ref_list_l l h1 h2 l.length 2000 0 (by omega) (by omega)
  simpa [textsB] using this
theorem own_eq (l : List Int) (h : l.length ≤ 10000000) : juratlaw04_own.f l = some l := by
  unfold juratlaw04_own.f
  simp only [Option.bind_some, List.nil_append, List.length_nil]
  rw [if_pos (by omega)]
theorem copies_l (l : List (List Int)) (h1 : l.length ≤ 1000) (h2 : ∀ t ∈ l, t.length ≤ 1000) (d : Nat) : ∀ (k i : Nat), i + d = l.length → d < k → juratlaw04_copies.l0 k l (l.take i) (i : Int) = some l := by
  induction d with
  | zero =>
    intro k i hi hk
    obtain ⟨k, rfl⟩ : ∃ m, k = m + 1 := ⟨k - 1, by omega⟩
    rw [juratlaw04_copies.l0, if_neg (by omega), List.take_of_length_le (by omega)]
  | succ d ih =>
    intro k i hi hk
    obtain ⟨k, rfl⟩ : ∃ m, k = m + 1 := ⟨k - 1, by omega⟩
    have hil : i < l.length := by omega
    have ht := h2 _ (List.getElem_mem hil)
    rw [juratlaw04_copies.l0, if_pos (by omega), if_pos (by omega), rd_L1_at l i hil, own_eq _ (by omega)]
    simp only [Option.bind_some]
    rw [if_pos (by rw [List.length_take]; omega), ← List.take_succ_eq_append_getElem hil, w_in (by omega) (by omega)]
    have := ih k (i + 1) (by omega) (by omega)
    rw [show ((i + 1 : Nat) : Int) = (i : Int) + 1 by omega] at this
    exact this
theorem copies_eq (l : List (List Int)) (h1 : l.length ≤ 1000) (h2 : ∀ t ∈ l, t.length ≤ 1000) : juratlaw04_copies.f 2000 l = some l := by
  have := copies_l l h1 h2 l.length 2000 0 (by omega) (by omega)
  simpa [juratlaw04_copies.f] using this
/-- Is a list longer than what is played? -/
def longB (l : List (List Int)) : Bool := decide (100 < l.length) || l.any (fun t => decide (500 < t.length))
theorem long_l (l : List (List Int)) (h1 : l.length ≤ 100) (d : Nat) : ∀ (k i : Nat), i + d = l.length → d < k → juratlaw04_long.l0 k l (i : Int) = some ((l.drop i).any (fun t => decide (500 < t.length))) := by
  induction d with
  | zero =>
    intro k i hi hk
    obtain ⟨k, rfl⟩ : ∃ m, k = m + 1 := ⟨k - 1, by omega⟩
    rw [juratlaw04_long.l0, if_neg (by omega), List.drop_of_length_le (by omega)]
    rfl
  | succ d ih =>
    intro k i hi hk
    obtain ⟨k, rfl⟩ : ∃ m, k = m + 1 := ⟨k - 1, by omega⟩
    have hil : i < l.length := by omega
    have h9 := ih k (i + 1) (by omega) (by omega)
    rw [show ((i + 1 : Nat) : Int) = (i : Int) + 1 by omega] at h9
    rw [juratlaw04_long.l0, if_pos (by omega), if_pos (by omega), rd_L1_at l i hil, List.drop_eq_getElem_cons hil, List.any_cons]
    by_cases hc : 500 < l[i].length
    · rw [if_pos (by omega), decide_eq_true hc]
      rfl
    · rw [if_neg (by omega), decide_eq_false hc, w_in (by omega) (by omega), h9]
      rfl
theorem long_eq (l : List (List Int)) : juratlaw04_long.f 200 l = some (longB l) := by
  unfold juratlaw04_long.f longB
  by_cases h : 100 < l.length
  · rw [if_pos (by omega), decide_eq_true h]
    rfl
  · rw [if_neg (by omega), decide_eq_false h]
    have := long_l l (by omega) l.length 200 0 (by omega) (by omega)
    simpa using this
theorem long_no {l : List (List Int)} (h : longB l = false) : l.length ≤ 100 ∧ ∀ t ∈ l, t.length ≤ 500 := by
  unfold longB at h
  rw [Bool.or_eq_false_iff] at h
  refine ⟨by simpa using h.1, fun t ht => ?_⟩
  have := List.any_eq_false.1 h.2 t ht
  simpa using this
theorem same4_l (l : List (List Int)) (h1 : l.length ≤ 1000) (h2 : ∀ t ∈ l, t.length ≤ 1000) (d : Nat) : ∀ (k i : Nat), i + d = l.length → d + 1010 < k → PWireReads.juratref04_Same.l0 k l l (i : Int) = some true := by
  induction d with
  | zero =>
    intro k i hi hk
    obtain ⟨k, rfl⟩ : ∃ m, k = m + 1 := ⟨k - 1, by omega⟩
    rw [PWireReads.juratref04_Same.l0, if_neg (by omega)]
  | succ d ih =>
    intro k i hi hk
    obtain ⟨k, rfl⟩ : ∃ m, k = m + 1 := ⟨k - 1, by omega⟩
    have hil : i < l.length := by omega
    have ht := h2 _ (List.getElem_mem hil)
    have hs : PWireReads.juratref01_Same.f k (PWireReads.rd_L1 l (i : Int)) (PWireReads.rd_L1 l (i : Int)) = some true := by
      have : PWireReads.rd_L1 l (i : Int) = l[i] := rd_L1_at l i hil
      rw [this]
      exact same_self' k _ (by omega) (by omega)
    rw [PWireReads.juratref04_Same.l0, if_pos (by omega), if_pos (by omega), if_pos (by omega), hs]
    simp only [Option.bind_some, if_true]
    rw [w_in (by omega) (by omega)]
    have := ih k (i + 1) (by omega) (by omega)
    rw [show ((i + 1 : Nat) : Int) = (i : Int) + 1 by omega] at this
    exact this
theorem same4 (l : List (List Int)) (h1 : l.length ≤ 1000) (h2 : ∀ t ∈ l, t.length ≤ 1000) : PWireReads.juratref04_Same.f 3000 l l = some true := by
  unfold PWireReads.juratref04_Same.f
  rw [if_pos rfl]
  exact same4_l l h1 h2 l.length 3000 0 (by omega) (by omega)
/-- A number that is read of bytes: the number, how many bytes were gone through, the error. -/
def numD (d : List Int) (most : Int) : Int × Nat × Int :=
  match d with
  | [] => (0, 0, 40)
  | h :: t =>
    if 8 < h then (0, 0, 41) else if t.length < h.toNat then (0, 0, 40) else if 0 < h ∧ t.head? = some 0 then (0, 0, 41)
    else if most < num 0 (t.take h.toNat) then (0, 0, 42) else (num 0 (t.take h.toNat), h.toNat + 1, 0)
theorem numD_nil (most : Int) : numD [] most = (0, 0, 40) := rfl
theorem numD_cons (h : Int) (t : List Int) (most : Int) : numD (h :: t) most = if 8 < h then (0, 0, 41) else if t.length < h.toNat then (0, 0, 40) else if 0 < h ∧ t.head? = some 0 then (0, 0, 41)
    else if most < num 0 (t.take h.toNat) then (0, 0, 42) else (num 0 (t.take h.toNat), h.toNat + 1, 0) := rfl
/-- A number of parts within a limit; a text; texts: what is read, how many bytes were gone through, the error. -/
def cntD (d : List Int) (most : Int) : Int × Nat × Int :=
  if (numD d 18446744073709551615).2.2 ≠ 0 then numD d 18446744073709551615 else if most < 0 ∨ most < (numD d 18446744073709551615).1 then ((numD d 18446744073709551615).1, 0, 42) else numD d 18446744073709551615
def textD (d : List Int) (most : Int) : List Int × Nat × Int :=
  if (cntD d most).2.2 ≠ 0 then ([], 0, (cntD d most).2.2) else if ((d.drop (cntD d most).2.1).length : Int) < (cntD d most).1 then ([], 0, 40)
  else ((d.drop (cntD d most).2.1).take (cntD d most).1.toNat, (cntD d most).2.1 + (cntD d most).1.toNat, 0)
def textsD : Nat → Int → Int → List Int → List (List Int) → Nat → List (List Int) × Nat × Int
  | 0, _, _, _, _, _ => ([], 0, 0)
  | f + 1, n, each, d, acc, c => if n ≤ 0 then (acc, c, 0) else if (textD d each).2.2 ≠ 0 then ([], 0, (textD d each).2.2) else textsD f (n - 1) each (d.drop (textD d each).2.1) (acc ++ [(textD d each).1]) (c + (textD d each).2.1)
def listD (d : List Int) (most each : Int) : List (List Int) × Nat × Int :=
  if (cntD d most).2.2 ≠ 0 then ([], 0, (cntD d most).2.2) else textsD (d.length + 1) (cntD d most).1 each (d.drop (cntD d most).2.1) [] (cntD d most).2.1
/-- What a number read comes to. -/
theorem numD_bd (d : List Int) (most : Int) (hb : Byt d) : 0 ≤ (numD d most).1 ∧ (numD d most).2.1 ≤ d.length ∧ ((numD d most).2.2 ≠ 0 → (numD d most).1 = 0 ∧ (numD d most).2.1 = 0) ∧ ((numD d most).2.2 = 0 → 0 < (numD d most).2.1 ∧ (numD d most).1 < 18446744073709551616) := by
  rcases d with _ | ⟨h, t⟩
  · rw [numD_nil]
    simp
  · have h0 := hb h (by simp)
    have ht : Byt t := fun x hx => hb x (by simp [hx])
    obtain ⟨a, _, b⟩ := num_bd (t.take h.toNat) (fun x hx => ht x (List.mem_of_mem_take hx)) 0 (by omega)
    rw [numD_cons]
    split
    · simp
    · split
      · simp
      · split
        · simp
        · split
          · simp
          · rename_i q1 q2 _ _
            have hl : (t.take h.toNat).length ≤ 8 := by rw [List.length_take]; omega
            have := p256_le hl
            rw [p256_8] at this
            refine ⟨a, by simp; omega, fun hc => absurd rfl hc, fun _ => ⟨by simp, by show num 0 (t.take h.toNat) < _; omega⟩⟩
theorem cntD_bd (d : List Int) (most : Int) (hb : Byt d) : 0 ≤ (cntD d most).1 ∧ (cntD d most).2.1 ≤ d.length ∧ ((cntD d most).2.2 = 0 → 0 < (cntD d most).2.1 ∧ (cntD d most).1 ≤ most) ∧ ((cntD d most).2.2 ≠ 0 → (cntD d most).2.1 = 0) := by
  obtain ⟨a, b, c, e⟩ := numD_bd d 18446744073709551615 hb
  unfold cntD
  split
  · rename_i h
    exact ⟨a, b, fun h' => absurd h' h, fun _ => (c h).2⟩
  · rename_i h
    have h := Decidable.not_not.1 h
    split
    · exact ⟨a, by simp, fun h' => by simp at h', fun _ => rfl⟩
    · rename_i h2
      exact ⟨a, b, fun _ => ⟨(e h).1, by omega⟩, fun h' => absurd h h'⟩
theorem textD_bd (d : List Int) (most : Int) (hb : Byt d) : (textD d most).2.1 ≤ d.length ∧ ((textD d most).2.2 = 0 → 0 < (textD d most).2.1 ∧ ((textD d most).1.length : Int) ≤ most) ∧ ((textD d most).2.2 ≠ 0 → (textD d most).2.1 = 0 ∧ (textD d most).1 = []) ∧ (textD d most).1.length ≤ d.length := by
  obtain ⟨a, b, c, e⟩ := cntD_bd d most hb
  unfold textD
  split
  · rename_i h
    exact ⟨by simp, fun h' => absurd h' h, fun _ => ⟨rfl, rfl⟩, by simp⟩
  · rename_i h
    have h := Decidable.not_not.1 h
    split
    · exact ⟨by simp, fun h' => by simp at h', fun _ => ⟨rfl, rfl⟩, by simp⟩
    · rename_i h2
      rw [List.length_drop] at h2
      have := (c h).1
      have := (c h).2
      exact ⟨by simp; omega, fun _ => ⟨by simp; omega, by simp; omega⟩, fun h' => absurd rfl h', by simp; omega⟩
def byteD (d : List Int) : Int × Nat × Int :=
  match d with
  | [] => (0, 0, 40)
  | h :: _ => (h, 1, 0)
/-- The error behind End. -/
def endD (d : List Int) (e : Int) : Int := if e = 0 ∧ 0 < d.length then 43 else e
end Go.Proofs.Ytnkaalapjlmmiaa.WirePure
