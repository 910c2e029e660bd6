/- PROVED: the law BitsWords of the printed functions: the words and the numbers of bytes, and a number's bytes, are the reference's. No condition. -/
import Derived.Test.YtdmofimhengcoaaPBitsWordsx2
import Derived.Laws.BitsAllLaws
namespace Go.Proofs.Ytdmofimhengcoaa.Pure
open Go.RowKit Go.Proofs.Ytdmofimhengcoaa.PBitsWords Go.Proofs.YtdmofimhengcoaaW.PrintWords Go.Proofs.YtdmofimhengcoaaW.PrintLast

theorem bd {a : Int} (h : (Lit.int .i64 a).wf = true) : -9223372036854775808 ≤ a ∧ a ≤ 9223372036854775807 := by
  simp [Lit.wf, IntKind.min, IntKind.max, IntKind.signed, IntKind.bits] at h
  omega
theorem bd64 {a : Int} (h : (Lit.int .u64 a).wf = true) : 0 ≤ a ∧ a < 18446744073709551616 := by
  simp [Lit.wf, IntKind.min, IntKind.max, IntKind.signed, IntKind.bits] at h
  omega
theorem bd8 {a : Int} (h : (Lit.int .u8 a).wf = true) : 0 ≤ a ∧ a < 256 := by
  simp [Lit.wf, IntKind.min, IntKind.max, IntKind.signed, IntKind.bits] at h
  omega
theorem w_in {n : Int} (h : -9223372036854775808 ≤ n) (h' : n ≤ 9223372036854775807) : wrap64 n = n := by
  unfold wrap64
  omega
/-- Bytes: each is one. -/
def Byt (l : List Int) : Prop := ∀ x ∈ l, 0 ≤ x ∧ x < 256
theorem byt_of {l : List Int} (h : ∀ x ∈ l, (Lit.int .u8 x).wf = true) : Byt l := fun x hx => bd8 (h x hx)
theorem byt_rd {l : List Int} (h : Byt l) (i : Int) (_h0 : 0 ≤ i) (h1 : i < (l.length : Int)) : 0 ≤ rd l i ∧ rd l i < 256 := by
  unfold rd
  have e : l.getD i.toNat 0 = l[i.toNat]'(by omega) := by simp [List.getD, List.getElem?_eq_getElem (show i.toNat < l.length by omega)]
  rw [e]
  exact h _ (List.getElem_mem _)
/-- The number of bytes behind a number. -/
def num (n : Int) : List Int → Int
  | [] => n
  | c :: r => num (n * 256 + c) r
theorem num_nil (n : Int) : num n [] = n := rfl
theorem num_append (n : Int) (a b : List Int) : num n (a ++ b) = num (num n a) b := by
  induction a generalizing n with
  | nil => rfl
  | cons c r ih => exact ih _
theorem num_bd (l : List Int) (h : Byt l) : ∀ n, 0 ≤ n → 0 ≤ num n l ∧ n * 256 ^ l.length ≤ num n l ∧ num n l < (n + 1) * 256 ^ l.length := by
  induction l with
  | nil => intro n hn; simp [num]; omega
  | cons c r ih =>
    intro n hn
    have hc := h c (by simp)
    have hr : Byt r := fun x hx => h x (by simp [hx])
    obtain ⟨a, b, e⟩ := ih hr (n * 256 + c) (by omega)
    have hp : (0 : Int) < 256 ^ r.length := Int.pow_pos (by omega)
    have x1 : n * 256 * 256 ^ r.length ≤ (n * 256 + c) * 256 ^ r.length := Int.mul_le_mul_of_nonneg_right (by omega) (by omega)
    have x2 : (n * 256 + c + 1) * 256 ^ r.length ≤ ((n + 1) * 256) * 256 ^ r.length := Int.mul_le_mul_of_nonneg_right (by omega) (by omega)
    have e1 : n * 256 ^ (c :: r).length = n * 256 * 256 ^ r.length := by rw [List.length_cons, Int.pow_succ, Int.mul_comm (256 ^ r.length), Int.mul_assoc]
    have e2 : (n + 1) * 256 ^ (c :: r).length = (n + 1) * 256 * 256 ^ r.length := by rw [List.length_cons, Int.pow_succ, Int.mul_comm (256 ^ r.length), Int.mul_assoc]
    rw [e1, e2]
    show 0 ≤ num (n * 256 + c) r ∧ _ ≤ num (n * 256 + c) r ∧ num (n * 256 + c) r < _
    omega
theorem num_shift (l : List Int) : ∀ n, num n l = n * 256 ^ l.length + num 0 l := by
  induction l with
  | nil => intro n; simp [num]
  | cons c r ih =>
    intro n
    show num (n * 256 + c) r = _ + num (0 * 256 + c) r
    rw [ih (n * 256 + c), ih (0 * 256 + c), List.length_cons, Int.pow_succ, Int.add_mul, Int.zero_mul, Int.zero_add, Int.mul_comm (256 ^ r.length) 256, Int.mul_assoc, Int.add_assoc]
theorem p256 (n : Nat) : (256 : Int) ^ n = ((256 ^ n : Nat) : Int) := by rw [Int.natCast_pow]; rfl
theorem p256_le {a b : Nat} (h : a ≤ b) : (256 : Int) ^ a ≤ 256 ^ b := by
  rw [p256, p256]
  exact_mod_cast Nat.pow_le_pow_right (by omega) h
theorem p256_8 : (256 : Int) ^ 8 = 18446744073709551616 := by decide
/-- The lowest 'w' bytes of a number. -/
def low (n : Int) : Nat → List Int
  | 0 => []
  | w + 1 => (n / 256 ^ w % 256) :: low n w
theorem low_length (n : Int) (w : Nat) : (low n w).length = w := by
  induction w with
  | zero => rfl
  | succ w ih => simp [low, ih]
theorem low_byt (n : Int) (w : Nat) : Byt (low n w) := by
  induction w with
  | zero => intro x hx; simp [low] at hx
  | succ w ih =>
    intro x hx
    simp only [low, List.mem_cons] at hx
    rcases hx with rfl | hx
    · omega
    · exact ih x hx
theorem emod_step (n a : Int) (ha : 0 < a) : n % (a * 256) = n / a % 256 * a + n % a := by
  have e1 : n = a * (n / a) + n % a := (Int.mul_ediv_add_emod n a).symm
  have r0 := Int.emod_nonneg n (show a ≠ 0 by omega)
  have r1 := Int.emod_lt_of_pos n ha
  generalize n % a = r at *
  generalize n / a = q at *
  have e2 : q = 256 * (q / 256) + q % 256 := by omega
  have s0 : 0 ≤ q % 256 * a := Int.mul_nonneg (by omega) (by omega)
  have s1 : q % 256 * a ≤ 255 * a := Int.mul_le_mul_of_nonneg_right (by omega) (by omega)
  have e3 : n = (q % 256 * a + r) + a * 256 * (q / 256) := by
    have e4 : a * q = a * 256 * (q / 256) + q % 256 * a := by
      conv => lhs; rw [e2]
      rw [Int.mul_add, Int.mul_assoc, Int.mul_comm a (q % 256)]
    omega
  rw [e3, Int.add_mul_emod_self_left]
  exact Int.emod_eq_of_lt (by omega) (by omega)
theorem num_low (n : Int) (w : Nat) : num 0 (low n w) = n % 256 ^ w := by
  induction w with
  | zero => simp [low, num, Int.emod_one]
  | succ w ih =>
    show num (0 * 256 + n / 256 ^ w % 256) (low n w) = _
    rw [num_shift, ih, low_length, Int.zero_mul, Int.zero_add, Int.pow_succ, emod_step _ _ (Int.pow_pos (by omega))]
theorem low_add (v r : Int) (w : Nat) : ∀ i, i ≤ w → low (v * 256 ^ w + r) i = low r i := by
  intro i
  induction i with
  | zero => intro _; rfl
  | succ i ih =>
    intro hi
    simp only [low]
    rw [ih (by omega)]
    congr 1
    obtain ⟨j, rfl⟩ : ∃ j, w = i + (j + 1) := ⟨w - i - 1, by omega⟩
    have e : v * 256 ^ (i + (j + 1)) = (v * 256 ^ j * 256) * 256 ^ i := by
      rw [Int.pow_add, Int.pow_succ, Int.mul_comm (256 ^ i), ← Int.mul_assoc, ← Int.mul_assoc]
    rw [e, Int.add_comm, Int.add_mul_ediv_right _ _ (by have := Int.pow_pos (n := 256) (m := i) (by omega); omega)]
    omega
theorem low_num (l : List Int) (h : Byt l) : low (num 0 l) l.length = l := by
  induction l with
  | nil => rfl
  | cons c r ih =>
    have hc := h c (by simp)
    have hr : Byt r := fun x hx => h x (by simp [hx])
    obtain ⟨a, _, b⟩ := num_bd r hr 0 (by omega)
    have hp : (0 : Int) < 256 ^ r.length := Int.pow_pos (by omega)
    show low (num (0 * 256 + c) r) (r.length + 1) = _
    rw [num_shift, Int.zero_mul, Int.zero_add]
    simp only [low]
    rw [low_add _ _ _ _ (Nat.le_refl _), ih hr, Int.add_comm, Int.add_mul_ediv_right _ _ (by omega), Int.ediv_eq_zero_of_lt a (by omega)]
    congr 1
    omega
/-- A number's next byte behind it, as the code lays it. -/
theorem join_byte (n c : Int) (h0 : 0 ≤ n) (h1 : n < 72057594037927936) (c0 : 0 ≤ c) (c1 : c < 256) : Go.bits .or .u64 (IntKind.u64.wrap (n * 256)) (IntKind.u64.wrap c) = n * 256 + c := by
  have e1 : IntKind.u64.wrap (n * 256) = ((n.toNat * 256 : Nat) : Int) := by rw [IntKind.wrap_u64]; omega
  have e2 : IntKind.u64.wrap c = ((c.toNat : Nat) : Int) := by rw [IntKind.wrap_u64]; omega
  rw [e1, e2, u64_or_nat _ _ (by omega) (by omega), nat_join 8 _ _ (by omega) (by omega)]
  omega
theorem take_rd (l : List Int) (i : Int) (h0 : 0 ≤ i) (h1 : i < (l.length : Int)) : l.take (i + 1).toNat = l.take i.toNat ++ [rd l i] := by
  have e : (i + 1).toNat = i.toNat + 1 := by omega
  rw [e, List.take_succ_eq_append_getElem (by omega)]
  unfold rd
  simp [List.getD, List.getElem?_eq_getElem (show i.toNat < l.length by omega)]
theorem byt_take {l : List Int} (h : Byt l) (n : Nat) : Byt (l.take n) := fun x hx => h x (List.mem_of_mem_take hx)
theorem byt_drop {l : List Int} (h : Byt l) (n : Nat) : Byt (l.drop n) := fun x hx => h x (List.mem_of_mem_drop hx)
theorem num_take_lt (l : List Int) (h : Byt l) (i : Int) (h1 : i < 8) (h2 : i < (l.length : Int)) : 0 ≤ num 0 (l.take i.toNat) ∧ num 0 (l.take i.toNat) < 72057594037927936 := by
  obtain ⟨a, _, b⟩ := num_bd (l.take i.toNat) (byt_take h _) 0 (by omega)
  have e : (256 : Int) ^ (l.take i.toNat).length ≤ 256 ^ 7 := p256_le (by rw [List.length_take]; omega)
  have e7 : (256 : Int) ^ 7 = 72057594037927936 := by decide
  omega
theorem number_l (l : List Int) (h : Byt l) (hl : l.length ≤ 8) (d : Nat) : ∀ (k : Nat) (i : Int), 0 ≤ i → i ≤ (l.length : Int) → (l.length : Int) - i = d → d < k →
    bits_Number.l0 k (num 0 (l.take i.toNat)) l (l.length : Int) i = some (num 0 l, 0) := by
  induction d with
  | zero =>
    intro k i i0 i1 hd hk
    obtain ⟨k, rfl⟩ : ∃ m, k = m + 1 := ⟨k - 1, by omega⟩
    rw [bits_Number.l0, if_neg (by omega), List.take_of_length_le (by omega)]
  | succ d ih =>
    intro k i i0 i1 hd hk
    obtain ⟨k, rfl⟩ : ∃ m, k = m + 1 := ⟨k - 1, by omega⟩
    obtain ⟨a, b⟩ := num_take_lt l h i (by omega) (by omega)
    obtain ⟨c0, c1⟩ := byt_rd h i i0 (by omega)
    rw [bits_Number.l0, if_pos (by omega), if_pos i0, if_pos (by omega), join_byte _ _ a b c0 c1, w_in (by omega) (by omega)]
    have e : num 0 (l.take i.toNat) * 256 + rd l i = num 0 (l.take (i + 1).toNat) := by
      rw [take_rd l i i0 (by omega), num_append]
      rfl
    rw [e]
    exact ih k (i + 1) (by omega) (by omega) (by omega) (by omega)
theorem number_in (k : Nat) (hk : 8 < k) (l : List Int) (h : Byt l) (hl : l.length ≤ 8) : bits_Number.f k l = some (num 0 l, 0) := by
  unfold bits_Number.f
  rw [if_neg (by omega)]
  exact number_l l h hl l.length k 0 (by omega) (by omega) (by omega) (by omega)
theorem number_out (k : Nat) (l : List Int) (hl : 8 < l.length) : bits_Number.f k l = some (0, 1) := by
  unfold bits_Number.f
  rw [if_pos (by omega)]
theorem shr_low (n : Int) (i : Int) (i0 : 0 ≤ i) (i1 : i < 8) : shr .u64 n (8 * i) = n / 256 ^ i.toNat := by
  unfold shr
  have e : min (8 * i).toNat IntKind.u64.bits = 8 * i.toNat := by
    show min (8 * i).toNat 64 = _
    omega
  rw [e, Int.pow_mul]
  rfl
theorem set_low (m : Nat) (v : Int) (r : List Int) : (List.replicate (m + 1) (0 : Int) ++ r).set m v = List.replicate m 0 ++ v :: r := by
  rw [List.replicate_succ', List.append_assoc]
  rw [List.set_append_right _ _ (by simp)]
  simp
theorem bytes_l (n w : Int) (w0 : 0 ≤ w) (w1 : w ≤ 8) (d : Nat) : ∀ (k : Nat) (i : Int), 0 ≤ i → i ≤ w → w - i = d → d < k →
    bits_Bytes.l0 k n w (List.replicate (w - i).toNat 0 ++ low n i.toNat) w i = some (low n w.toNat, 0) := by
  induction d with
  | zero =>
    intro k i i0 i1 hd hk
    obtain ⟨k, rfl⟩ : ∃ m, k = m + 1 := ⟨k - 1, by omega⟩
    obtain rfl : i = w := by omega
    rw [bits_Bytes.l0, if_neg (by omega)]
    simp
  | succ d ih =>
    intro k i i0 i1 hd hk
    obtain ⟨k, rfl⟩ : ∃ m, k = m + 1 := ⟨k - 1, by omega⟩
    rw [bits_Bytes.l0, if_pos (by omega), w_in (n := 8 * i) (by omega) (by omega), if_pos (by omega), w_in (n := w - 1) (by omega) (by omega), w_in (n := w - 1 - i) (by omega) (by omega), if_pos (by omega),
      if_pos (by simp [low_length]; omega), shr_low n i i0 (by omega), w_in (n := i + 1) (by omega) (by omega)]
    have e : (w - i).toNat = (w - 1 - i).toNat + 1 := by omega
    rw [e, set_low]
    have e2 : (w - 1 - i).toNat = (w - (i + 1)).toNat := by omega
    have e3 : n / 256 ^ i.toNat % 256 :: low n i.toNat = low n (i + 1).toNat := by
      have : (i + 1).toNat = i.toNat + 1 := by omega
      rw [this]
      rfl
    rw [e2, e3]
    exact ih k (i + 1) (by omega) (by omega) (by omega) (by omega)
theorem bytes_in (k : Nat) (hk : 9 < k) (n w : Int) (w0 : 0 ≤ w) (w1 : w ≤ 8) : bits_Bytes.f k n w = some (low n w.toNat, 0) := by
  obtain ⟨k, rfl⟩ : ∃ m, k = m + 1 := ⟨k - 1, by omega⟩
  unfold bits_Bytes.f
  rw [if_neg (by omega), decide_eq_false (by omega), bits_Bytes.j0, if_neg (by simp), if_pos w0, if_pos (by omega)]
  have := bytes_l n w w0 w1 w.toNat k 0 (by omega) (by omega) (by omega) (by omega)
  simpa [low] using this
theorem bytes_out (k : Nat) (hk : 0 < k) (n w : Int) (h : w < 0 ∨ 8 < w) : bits_Bytes.f k n w = some ([], 1) := by
  obtain ⟨k, rfl⟩ : ∃ m, k = m + 1 := ⟨k - 1, by omega⟩
  unfold bits_Bytes.f
  by_cases c : w < 0
  · rw [if_pos c, bits_Bytes.j0, if_pos rfl]
  · rw [if_neg c, decide_eq_true (by omega), bits_Bytes.j0, if_pos rfl]
theorem same_l (l : List Int) (hm : l.length ≤ 9223372036854775800) (d : Nat) : ∀ (k : Nat) (i : Int), 0 ≤ i → i ≤ (l.length : Int) → (l.length : Int) - i = d → d < k → juratref01_Same.l0 k l l i = some true := by
  induction d with
  | zero =>
    intro k i i0 i1 hd hk
    obtain ⟨k, rfl⟩ : ∃ m, k = m + 1 := ⟨k - 1, by omega⟩
    rw [juratref01_Same.l0, if_neg (by omega)]
  | succ d ih =>
    intro k i i0 i1 hd hk
    obtain ⟨k, rfl⟩ : ∃ m, k = m + 1 := ⟨k - 1, by omega⟩
    rw [juratref01_Same.l0, if_pos (by omega), if_pos i0, if_pos (by omega), if_pos rfl, w_in (by omega) (by omega)]
    exact ih k (i + 1) (by omega) (by omega) (by omega) (by omega)
theorem same_self (k : Nat) (l : List Int) (hm : l.length ≤ 9223372036854775800) (hk : l.length < k) : juratref01_Same.f k l l = some true := by
  unfold juratref01_Same.f
  rw [if_pos rfl]
  exact same_l l hm l.length k 0 (by omega) (by omega) (by omega) hk
theorem ref_number_l (l : List Int) (h : Byt l) (hl : l.length ≤ 8) (d : Nat) : ∀ (k : Nat) (i : Int), 0 ≤ i → i ≤ (l.length : Int) → (l.length : Int) - i = d → d < k →
    juratref01_Number.l0 k l (num 0 (l.take i.toNat)) i = some (num 0 l, 0) := by
  induction d with
  | zero =>
    intro k i i0 i1 hd hk
    obtain ⟨k, rfl⟩ : ∃ m, k = m + 1 := ⟨k - 1, by omega⟩
    rw [juratref01_Number.l0, if_neg (by omega), List.take_of_length_le (by omega)]
  | succ d ih =>
    intro k i i0 i1 hd hk
    obtain ⟨k, rfl⟩ : ∃ m, k = m + 1 := ⟨k - 1, by omega⟩
    obtain ⟨a, b⟩ := num_take_lt l h i (by omega) (by omega)
    obtain ⟨c0, c1⟩ := byt_rd h i i0 (by omega)
    rw [juratref01_Number.l0, if_pos (by omega), if_pos i0, w_in (by omega) (by omega)]
    have e : IntKind.u64.wrap (IntKind.u64.wrap (num 0 (l.take i.toNat) * 256) + IntKind.u64.wrap (rd l i)) = num 0 (l.take (i + 1).toNat) := by
      rw [take_rd l i i0 (by omega), num_append]
      show _ = num 0 (l.take i.toNat) * 256 + rd l i
      rw [IntKind.wrap_u64, IntKind.wrap_u64, IntKind.wrap_u64]
      omega
    rw [e]
    exact ih k (i + 1) (by omega) (by omega) (by omega) (by omega)
theorem ref_number_in (k : Nat) (hk : 8 < k) (l : List Int) (h : Byt l) (hl : l.length ≤ 8) : juratref01_Number.f k l = some (num 0 l, 0) := by
  unfold juratref01_Number.f
  rw [if_neg (by omega)]
  exact ref_number_l l h hl l.length k 0 (by omega) (by omega) (by omega) (by omega)
theorem ref_number_out (k : Nat) (l : List Int) (hl : 8 < l.length) : juratref01_Number.f k l = some (0, 1) := by
  unfold juratref01_Number.f
  rw [if_pos (by omega)]
theorem div_step (n : Int) (i : Nat) (_n0 : 0 ≤ n) : n / 256 ^ i / 256 = n / 256 ^ (i + 1) := by
  rw [Int.pow_succ, Int.ediv_ediv_of_nonneg (Int.le_of_lt (Int.pow_pos (by omega)))]
theorem ref_bytes_l (n w : Int) (n0 : 0 ≤ n) (n1 : n < 18446744073709551616) (w1 : w ≤ 8) (d : Nat) : ∀ (k : Nat) (i : Int), 0 ≤ i → i ≤ w → w - i = d → d < k →
    juratref01_Bytes.l0 k (n / 256 ^ i.toNat) w (low n i.toNat) i = some (low n w.toNat, 0) := by
  induction d with
  | zero =>
    intro k i i0 i1 hd hk
    obtain ⟨k, rfl⟩ : ∃ m, k = m + 1 := ⟨k - 1, by omega⟩
    obtain rfl : i = w := by omega
    rw [juratref01_Bytes.l0, if_neg (by omega)]
  | succ d ih =>
    intro k i i0 i1 hd hk
    obtain ⟨k, rfl⟩ : ∃ m, k = m + 1 := ⟨k - 1, by omega⟩
    have q0 : 0 ≤ n / 256 ^ i.toNat := Int.ediv_nonneg n0 (Int.le_of_lt (Int.pow_pos (by omega)))
    have q1 : n / 256 ^ i.toNat ≤ n := Int.ediv_le_self _ n0
    rw [juratref01_Bytes.l0, if_pos (by omega), w_in (by omega) (by omega)]
    simp only [Option.bind_some]
    rw [if_pos (by simp [low_length]; omega), Int.tmod_eq_emod_of_nonneg q0, Int.tdiv_eq_ediv_of_nonneg q0, IntKind.wrap_u64]
    have e : (n / 256 ^ i.toNat / 256) % 18446744073709551616 = n / 256 ^ (i + 1).toNat := by
      have e1 : (i + 1).toNat = i.toNat + 1 := by omega
      rw [e1, ← div_step n _ n0]
      omega
    have e2 : [n / 256 ^ i.toNat % 256 % 256] ++ low n i.toNat = low n (i + 1).toNat := by
      have e1 : (i + 1).toNat = i.toNat + 1 := by omega
      rw [e1]
      show _ :: _ = _ :: _
      congr 1
      omega
    rw [e, e2]
    exact ih k (i + 1) (by omega) (by omega) (by omega) (by omega)
theorem ref_bytes_in (k : Nat) (hk : 9 < k) (n w : Int) (n0 : 0 ≤ n) (n1 : n < 18446744073709551616) (w0 : 0 ≤ w) (w1 : w ≤ 8) : juratref01_Bytes.f k n w = some (low n w.toNat, 0) := by
  obtain ⟨k, rfl⟩ : ∃ m, k = m + 1 := ⟨k - 1, by omega⟩
  unfold juratref01_Bytes.f
  rw [if_neg (by omega), decide_eq_false (by omega), juratref01_Bytes.j0, if_neg (by simp)]
  have := ref_bytes_l n w n0 n1 w1 w.toNat k 0 (by omega) (by omega) (by omega) (by omega)
  simpa [low] using this
theorem ref_bytes_out (k : Nat) (hk : 0 < k) (n w : Int) (h : w < 0 ∨ 8 < w) : juratref01_Bytes.f k n w = some ([], 1) := by
  obtain ⟨k, rfl⟩ : ∃ m, k = m + 1 := ⟨k - 1, by omega⟩
  unfold juratref01_Bytes.f
  by_cases c : w < 0
  · rw [if_pos c, juratref01_Bytes.j0, if_pos rfl]
  · rw [if_neg c, decide_eq_true (by omega), juratref01_Bytes.j0, if_pos rfl]
theorem four (l : List Int) (a : Int) (a0 : 0 ≤ a) (a1 : a + 4 ≤ (l.length : Int)) : (l.take (a + 4).toNat).drop a.toNat = [rd l a, rd l (a + 1), rd l (a + 2), rd l (a + 3)] := by
  obtain ⟨n, rfl⟩ := Int.eq_ofNat_of_zero_le a0
  apply List.ext_getElem
  · simp
    omega
  · intro i h1 h2
    simp at h2
    rw [List.getElem_drop, List.getElem_take]
    have hr : ∀ (m : Nat) (x : Int) (hm : m < l.length), x = (m : Int) → l[m] = rd l x := by
      intro m x hm hx
      subst hx
      unfold rd
      simp [List.getD, List.getElem?_eq_getElem hm]
    match i, h2 with
    | 0, _ => exact hr _ _ _ (by omega)
    | 1, _ => exact hr _ _ _ (by omega)
    | 2, _ => exact hr _ _ _ (by omega)
    | 3, _ => exact hr _ _ _ (by omega)
theorem word_out (k : Nat) (l : List Int) (hl : l.length ≤ 140737488351232) (a : Int) (h : a < 0 ∨ (l.length : Int) - 4 < a) : bits_Word.f k l a = some (0, 1) ∧ juratref01_Word.f l a = some (0, 1) := by
  unfold bits_Word.f juratref01_Word.f
  rw [w_in (n := (l.length : Int) - 4) (by omega) (by omega)]
  by_cases c : a < 0
  · rw [if_pos c, if_pos c]
    exact ⟨rfl, rfl⟩
  · rw [if_neg c, if_neg c, if_pos (by omega)]
    refine ⟨rfl, ?_⟩
    by_cases c2 : (l.length : Int) < 4
    · rw [if_pos c2]
    · rw [if_neg c2, if_pos (by omega)]
theorem word_in (k : Nat) (hk : 8 < k) (l : List Int) (hl : l.length ≤ 140737488351232) (hB : Byt l) (a : Int) (a0 : 0 ≤ a) (a1 : a ≤ (l.length : Int) - 4) : ∃ x, bits_Word.f k l a = some x ∧ juratref01_Word.f l a = some x := by
  obtain ⟨p0, p1⟩ := byt_rd hB a (by omega) (by omega)
  obtain ⟨q0, q1⟩ := byt_rd hB (a + 1) (by omega) (by omega)
  obtain ⟨r0, r1⟩ := byt_rd hB (a + 2) (by omega) (by omega)
  obtain ⟨s0, s1⟩ := byt_rd hB (a + 3) (by omega) (by omega)
  have hb4 : Byt ((l.take (a + 4).toNat).drop a.toNat) := byt_drop (byt_take hB _) _
  unfold bits_Word.f juratref01_Word.f
  rw [w_in (n := (l.length : Int) - 4) (by omega) (by omega), if_neg (by omega), if_neg (by omega), if_pos a0, w_in (n := a + 4) (by omega) (by omega), if_pos (by omega), if_pos (by omega),
    number_in k hk _ hb4 (by rw [four l a a0 (by omega)]; simp), four l a a0 (by omega)]
  refine ⟨_, rfl, ?_⟩
  rw [if_neg (by omega), if_neg (by omega), if_neg (by omega), if_pos a0, if_pos (by omega), w_in (n := a + 1) (by omega) (by omega), if_pos (by omega), if_pos (by omega),
    w_in (n := a + 2) (by omega) (by omega), if_pos (by omega), if_pos (by omega), w_in (n := a + 3) (by omega) (by omega), if_pos (by omega), if_pos (by omega)]
  congr 2
  show _ = (((((0 * 256 + rd l a) * 256 + rd l (a + 1)) * 256 + rd l (a + 2)) * 256 + rd l (a + 3))) % 4294967296
  omega
theorem BitsWords : juratlaw01_BitsWords.Pure := by
  intro l0 a1 a2 a3 _ hl hb h1 h2 h3
  have b1 := bd h1
  have b2 := bd64 h2
  have b3 := bd h3
  have hB := byt_of hb
  obtain ⟨k, hk⟩ : ∃ k : Nat, k = 20 := ⟨_, rfl⟩
  refine ⟨k, ?_⟩
  unfold juratlaw01_BitsWords.f
  simp only [Option.bind_some, List.nil_append]
  rw [if_pos (by simp; omega)]
  have hw : ∃ x, bits_Word.f k l0 a1 = some x ∧ juratref01_Word.f l0 a1 = some x := by
    by_cases c : a1 < 0 ∨ (l0.length : Int) - 4 < a1
    · exact ⟨_, word_out k l0 (by omega) a1 c⟩
    · exact word_in k (by omega) l0 (by omega) hB a1 (by omega) (by omega)
  have hy : ∃ x e, bits_Bytes.f k a2 a3 = some (x, e) ∧ juratref01_Bytes.f k a2 a3 = some (x, e) ∧ x.length ≤ 8 := by
    by_cases c : a3 < 0 ∨ 8 < a3
    · exact ⟨_, _, bytes_out k (by omega) a2 a3 c, ref_bytes_out k (by omega) a2 a3 c, by simp⟩
    · exact ⟨_, _, bytes_in k (by omega) a2 a3 (by omega) (by omega), ref_bytes_in k (by omega) a2 a3 (by omega) (by omega) (by omega) (by omega), by rw [low_length]; omega⟩
  have hn : ∃ x, bits_Number.f k l0 = some x ∧ juratref01_Number.f k l0 = some x := by
    by_cases c : 8 < l0.length
    · exact ⟨_, number_out k l0 c, ref_number_out k l0 c⟩
    · exact ⟨_, number_in k (by omega) l0 hB (by omega), ref_number_in k (by omega) l0 hB (by omega)⟩
  obtain ⟨x, hx, hx'⟩ := hw
  obtain ⟨y, e, hy, hy', hyl⟩ := hy
  obtain ⟨z, hz, hz'⟩ := hn
  rw [hx, hx', hy, hy', hz, hz', number_in k (by omega) [1, 2] (by intro x hx; simp at hx; omega) (by simp)]
  simp only [Option.bind_some]
  rw [if_pos (by simp; omega), if_pos trivial, if_pos trivial, same_self k y (by omega) (by omega)]
  simp [num]

end Go.Proofs.Ytdmofimhengcoaa.Pure
