/- PROVED: what is written is read as it was; what is read has just the bytes that were gone through; of no beginning anything is read: in plain lists of numbers. No condition beyond what each line says. -/
import Derived.Test.YtnkaalapjlmmiaaWirePure
namespace Go.Proofs.Ytnkaalapjlmmiaa.WirePure2
open Go.RowKit Go.Proofs.Ytnkaalapjlmmiaa.PWireWrites Go.Proofs.Ytnkaalapjlmmiaa.WirePure Go.Proofs.YtnkaalapjlmmiaaW.PrintWords Go.Proofs.YtnkaalapjlmmiaaW.PrintLast Go.Proofs.YtnkaalapjlmmiaaW.PrintMore
set_option linter.unusedSimpArgs false
set_option linter.unusedVariables false
theorem low_head (n : Int) (w : Nat) (rest : List Int) (h0 : 0 ≤ n) (hw : 0 < w) (h1 : 256 ^ (w - 1) ≤ n) (h2 : n < 256 ^ w) : ¬ ((low n w ++ rest).head? = some 0) := by
  obtain ⟨v, rfl⟩ : ∃ v, w = v + 1 := ⟨w - 1, by omega⟩
  rw [Nat.add_sub_cancel] at h1
  show ¬ (some (n / 256 ^ v % 256) = some 0)
  have hp : (0 : Int) < 256 ^ v := Int.pow_pos (by omega)
  have a : 1 ≤ n / 256 ^ v := by rw [Int.le_ediv_iff_mul_le hp]; omega
  have b : n / 256 ^ v < 256 := by rw [Int.ediv_lt_iff_lt_mul hp]; rw [Int.pow_succ] at h2; omega
  rw [Option.some.injEq, Int.emod_eq_of_lt (by omega) b]
  omega
theorem num_low_id (n : Int) (h0 : 0 ≤ n) (h1 : n < 18446744073709551616) : num 0 (low n (wid n)) = n := by rw [num_low, Int.emod_eq_of_lt h0 (wid_lt n h0 h1)]
theorem numD_back (n : Int) (h0 : 0 ≤ n) (h1 : n < 18446744073709551616) (rest : List Int) (most : Int) (hm : n ≤ most) : numD (numB n ++ rest) most = (n, (numB n).length, 0) := by
  have hw := wid_le n
  rw [numB_length]
  unfold numB
  rw [List.cons_append, numD_cons, Int.toNat_natCast, if_neg (by omega), if_neg (by rw [List.length_append, low_length]; omega)]
  rw [if_neg (by
    rintro ⟨ha, hb⟩
    rcases wid_ge n h0 with h | h
    · omega
    · exact low_head n (wid n) rest h0 (by omega) h (wid_lt n h0 h1) hb)]
  have e : (low n (wid n) ++ rest).take (wid n) = low n (wid n) := by
    rw [List.take_append_of_le_length (by rw [low_length]; exact Nat.le_refl _), List.take_of_length_le (by rw [low_length]; exact Nat.le_refl _)]
  rw [e, num_low_id n h0 h1, if_neg (by omega)]
theorem numD_cut (n : Int) (h0 : 0 ≤ n) (k : Nat) (hk : k < (numB n).length) (most : Int) : numD ((numB n).take k) most = (0, 0, 40) := by
  have hw := wid_le n
  rw [numB_length] at hk
  unfold numB
  rcases k with _ | k
  · rfl
  · rw [List.take_succ_cons, numD_cons, Int.toNat_natCast, if_neg (by omega), if_pos (by rw [List.length_take, low_length]; omega)]
theorem cntD_back (n : Nat) (h1 : n < 1000000) (rest : List Int) (most : Int) (hm : (n : Int) ≤ most) : cntD (numB (n : Int) ++ rest) most = ((n : Int), (numB (n : Int)).length, 0) := by
  have h := numD_back (n : Int) (by omega) (by omega) rest 18446744073709551615 (by omega)
  unfold cntD
  rw [h]
  rw [if_neg (by simp), if_neg (by omega)]
theorem cntD_cut (n : Nat) (k : Nat) (hk : k < (numB (n : Int)).length) (most : Int) : cntD ((numB (n : Int)).take k) most = (0, 0, 40) := by
  unfold cntD
  rw [numD_cut (n : Int) (by omega) k hk, if_pos (by simp)]
theorem textD_back (t : List Int) (ht : t.length < 1000000) (rest : List Int) (most : Int) (hm : (t.length : Int) ≤ most) : textD (textB t ++ rest) most = (t, (textB t).length, 0) := by
  unfold textD textB
  rw [List.append_assoc, cntD_back t.length ht (t ++ rest) most hm]
  rw [if_neg (by simp), List.drop_left, if_neg (by simp only [List.length_append]; omega)]
  simp
theorem textD_cut (t : List Int) (ht : t.length < 1000000) (k : Nat) (hk : k < (textB t).length) (most : Int) (hm : (t.length : Int) ≤ most) : textD ((textB t).take k) most = ([], 0, 40) := by
  unfold textB at hk ⊢
  rw [List.length_append] at hk
  unfold textD
  by_cases q : k < (numB (t.length : Int)).length
  · rw [List.take_append_of_le_length (by omega), cntD_cut t.length k q, if_pos (by simp)]
  · rw [List.take_append, List.take_of_length_le (by omega), cntD_back t.length ht _ most hm]
    rw [if_neg (by simp), List.drop_left, if_pos (by rw [List.length_take]; simp only; omega)]
theorem textB_pos (t : List Int) : 0 < (textB t).length := by unfold textB; rw [List.length_append, numB_length]; omega
theorem textsD_back (each : Int) : ∀ (l : List (List Int)) (f : Nat) (acc : List (List Int)) (c : Nat) (rest : List Int), (∀ t ∈ l, t.length < 1000000 ∧ (t.length : Int) ≤ each) → (textsB l ++ rest).length < f →
    textsD f (l.length : Int) each (textsB l ++ rest) acc c = (acc ++ l, c + (textsB l).length, 0) := by
  intro l
  induction l with
  | nil =>
    intro f acc c rest _ hf
    obtain ⟨f, rfl⟩ : ∃ g, f = g + 1 := ⟨f - 1, by omega⟩
    rw [textsD, if_pos (by simp)]
    simp [textsB]
  | cons t l ih =>
    intro f acc c rest h hf
    obtain ⟨f, rfl⟩ : ∃ g, f = g + 1 := ⟨f - 1, by omega⟩
    obtain ⟨a, b⟩ := h t List.mem_cons_self
    have hp := textB_pos t
    simp only [textsB, List.append_assoc, List.length_append] at hf ⊢
    rw [textsD, if_neg (by first | (simp; done) | (simp; omega)), textD_back t a _ each b]
    rw [if_neg (by simp), List.drop_left]
    have e : (((t :: l).length : Nat) : Int) - 1 = (l.length : Int) := by simp
    rw [e, ih f (acc ++ [t]) (c + (textB t).length) rest (fun x hx => h x (List.mem_cons_of_mem _ hx)) (by rw [List.length_append]; omega)]
    simp [Nat.add_assoc]
theorem listD_back (l : List (List Int)) (hl : l.length < 1000000) (most each : Int) (hm : (l.length : Int) ≤ most) (h : ∀ t ∈ l, t.length < 1000000 ∧ (t.length : Int) ≤ each) (rest : List Int) : listD (listB l ++ rest) most each = (l, (listB l).length, 0) := by
  unfold listD listB
  rw [List.append_assoc, cntD_back l.length hl _ most hm]
  rw [if_neg (by simp), List.drop_left, textsD_back each l _ [] _ rest h (by simp; omega)]
  simp
theorem textsD_cut (each : Int) : ∀ (l : List (List Int)) (f : Nat) (acc : List (List Int)) (c j : Nat), (∀ t ∈ l, t.length < 1000000 ∧ (t.length : Int) ≤ each) → j < (textsB l).length → j < f →
    textsD f (l.length : Int) each ((textsB l).take j) acc c = ([], 0, 40) := by
  intro l
  induction l with
  | nil => intro f acc c j _ hj; simp [textsB] at hj
  | cons t l ih =>
    intro f acc c j h hj hf
    obtain ⟨f, rfl⟩ : ∃ g, f = g + 1 := ⟨f - 1, by omega⟩
    obtain ⟨a, b⟩ := h t List.mem_cons_self
    have hp := textB_pos t
    simp only [textsB, List.length_append] at hj ⊢
    rw [textsD, if_neg (by first | (simp; done) | (simp; omega))]
    by_cases q : j < (textB t).length
    · rw [List.take_append_of_le_length (by omega), textD_cut t a j q each b, if_pos (by simp)]
    · rw [List.take_append, List.take_of_length_le (by omega), textD_back t a _ each b]
      rw [if_neg (by simp), List.drop_left]
      have e : (((t :: l).length : Nat) : Int) - 1 = (l.length : Int) := by simp
      rw [e]
      exact ih f _ _ (j - (textB t).length) (fun x hx => h x (List.mem_cons_of_mem _ hx)) (by omega) (by omega)
theorem listD_cut (l : List (List Int)) (hl : l.length < 1000000) (most each : Int) (hm : (l.length : Int) ≤ most) (h : ∀ t ∈ l, t.length < 1000000 ∧ (t.length : Int) ≤ each) (k : Nat) (hk : k < (listB l).length) : listD ((listB l).take k) most each = ([], 0, 40) := by
  unfold listB at hk ⊢
  rw [List.length_append] at hk
  unfold listD
  by_cases q : k < (numB (l.length : Int)).length
  · rw [List.take_append_of_le_length (by omega), cntD_cut l.length k q, if_pos (by simp)]
  · rw [List.take_append, List.take_of_length_le (by omega), cntD_back l.length hl _ most hm]
    rw [if_neg (by simp), List.drop_left]
    exact textsD_cut each l _ _ _ _ h (by omega) (by simp [List.length_take]; omega)
theorem numD_one (d : List Int) (most : Int) (hb : Byt d) (h : (numD d most).2.2 = 0) : numB (numD d most).1 = d.take (numD d most).2.1 := by
  rcases d with _ | ⟨x, t⟩
  · simp [numD_nil] at h
  · have hx := hb x (by simp)
    have ht : Byt t := fun y hy => hb y (by simp [hy])
    rw [numD_cons] at h ⊢
    split at h
    · simp at h
    rename_i q1
    rw [if_neg q1]
    split at h
    · simp at h
    rename_i q2
    rw [if_neg q2]
    split at h
    · simp at h
    rename_i q3
    rw [if_neg q3]
    split at h
    · simp at h
    rename_i q4
    rw [if_neg q4]
    obtain ⟨m, rfl⟩ := Int.eq_ofNat_of_zero_le hx.1
    rw [Int.toNat_natCast] at q2 q4 ⊢
    have hbt : Byt (t.take m) := fun y hy => ht y (List.mem_of_mem_take hy)
    have hml : (t.take m).length = m := by rw [List.length_take]; omega
    obtain ⟨a, _, b⟩ := num_bd (t.take m) hbt 0 (by omega)
    rw [hml] at b
    have hw : wid (num 0 (t.take m)) = m := by
      refine wid_uniq (wid_lt _ a ?_) (wid_ge _ a) (by omega) ?_
      · have := p256_le (show m ≤ 8 by omega)
        rw [p256_8] at this
        omega
      · rcases m with _ | m
        · exact .inl rfl
        · refine .inr ?_
          rw [Nat.add_sub_cancel]
          rcases t with _ | ⟨y, ys⟩
          · simp at q2
          · have hy := ht y (by simp)
            have hy0 : y ≠ 0 := fun e => q3 ⟨by omega, by simp [e]⟩
            rw [List.take_succ_cons]
            show _ ≤ num (0 * 256 + y) (ys.take m)
            rw [num_shift]
            have hl2 : (ys.take m).length = m := by rw [List.take_succ_cons, List.length_cons] at hml; omega
            have hbs : Byt (ys.take m) := fun z hz => ht z (by simp [List.mem_of_mem_take hz])
            obtain ⟨c, _, _⟩ := num_bd (ys.take m) hbs 0 (by omega)
            rw [hl2, Int.zero_mul, Int.zero_add]
            have hp : (0 : Int) < 256 ^ m := Int.pow_pos (by omega)
            have := Int.mul_le_mul_of_nonneg_right (show 1 ≤ y by omega) (Int.le_of_lt hp)
            omega
    unfold numB
    rw [hw]
    have := low_num (t.take m) hbt
    rw [hml] at this
    rw [this]
    rfl
theorem cntD_one (d : List Int) (most : Int) (hb : Byt d) (h : (cntD d most).2.2 = 0) : cntD d most = numD d 18446744073709551615 ∧ numB (cntD d most).1 = d.take (cntD d most).2.1 := by
  unfold cntD at h ⊢
  split at h
  · rename_i q
    exact absurd h q
  · rename_i q
    split at h
    · simp at h
    · rename_i q2
      rw [if_neg q, if_neg q2]
      exact ⟨rfl, numD_one d _ hb h⟩
theorem textD_one (d : List Int) (most : Int) (hb : Byt d) (h : (textD d most).2.2 = 0) : textB (textD d most).1 = d.take (textD d most).2.1 := by
  unfold textD at h ⊢
  split at h
  · rename_i q
    exact absurd h q
  · rename_i q
    rw [if_neg q]
    split at h
    · simp at h
    · rename_i q2
      rw [if_neg q2]
      have q := Decidable.not_not.1 q
      obtain ⟨e1, e2⟩ := cntD_one d most hb q
      obtain ⟨b0, b1, b2, b3⟩ := cntD_bd d most hb
      rw [List.length_drop] at q2
      unfold textB
      have hl : (((d.drop (cntD d most).2.1).take (cntD d most).1.toNat).length : Int) = (cntD d most).1 := by rw [List.length_take, List.length_drop]; omega
      simp only
      rw [hl, e2, ← List.take_add]
theorem textsD_one (each : Int) : ∀ (f : Nat) (n : Int) (d : List Int) (acc : List (List Int)) (c : Nat), 0 ≤ n → Byt d → d.length < f → (textsD f n each d acc c).2.2 = 0 →
    ∃ l', (textsD f n each d acc c).1 = acc ++ l' ∧ (l'.length : Int) = n ∧ (∀ t ∈ l', t.length ≤ d.length) ∧ c ≤ (textsD f n each d acc c).2.1 ∧ (textsD f n each d acc c).2.1 - c ≤ d.length ∧ textsB l' = d.take ((textsD f n each d acc c).2.1 - c) := by
  intro f
  induction f with
  | zero => intro n d acc c _ _ hf; omega
  | succ f ih =>
    intro n d acc c hn hb hf h
    rw [textsD] at h ⊢
    by_cases q : n ≤ 0
    · rw [if_pos q]
      refine ⟨[], by simp, by simp; omega, by simp, Nat.le_refl _, by simp, by simp [textsB]⟩
    · rw [if_neg q] at h ⊢
      by_cases q2 : (textD d each).2.2 = 0
      · rw [if_neg (by simpa using q2)] at h ⊢
        obtain ⟨b1, b2, b3, b4⟩ := textD_bd d each hb
        have hp := (b2 q2).1
        obtain ⟨l', e1, e2, e3, e4, e5, e6⟩ := ih (n - 1) (d.drop (textD d each).2.1) (acc ++ [(textD d each).1]) (c + (textD d each).2.1) (by omega) (byt_drop hb _) (by rw [List.length_drop]; omega) h
        rw [List.length_drop] at e5
        refine ⟨(textD d each).1 :: l', by rw [e1]; simp, by simp; omega, ?_, by omega, by omega, ?_⟩
        · intro t ht
          rcases List.mem_cons.1 ht with rfl | ht
          · exact b4
          · have := e3 t ht
            rw [List.length_drop] at this
            omega
        · simp only [textsB]
          rw [textD_one d each hb q2, e6, ← List.take_add]
          congr 1
          omega
      · rw [if_pos q2] at h
        exact absurd h q2
theorem listD_one (d : List Int) (most each : Int) (hb : Byt d) (h : (listD d most each).2.2 = 0) : listB (listD d most each).1 = d.take (listD d most each).2.1 ∧ ((listD d most each).1.length : Int) ≤ most ∧ (∀ t ∈ (listD d most each).1, t.length ≤ d.length) ∧ (listD d most each).2.1 ≤ d.length := by
  unfold listD at h ⊢
  split at h
  · rename_i q
    exact absurd h q
  · rename_i q
    rw [if_neg q]
    have q := Decidable.not_not.1 q
    obtain ⟨_, e0⟩ := cntD_one d most hb q
    obtain ⟨b0, b1, b2, b3⟩ := cntD_bd d most hb
    obtain ⟨l', e1, e2, e3, e4, e5, e6⟩ := textsD_one each (d.length + 1) (cntD d most).1 (d.drop (cntD d most).2.1) [] (cntD d most).2.1 b0 (byt_drop hb _) (by rw [List.length_drop]; omega) h
    rw [List.length_drop] at e5
    rw [e1, List.nil_append]
    refine ⟨?_, by have := (b2 q).2; omega, fun t ht => by have := e3 t ht; rw [List.length_drop] at this; omega, by omega⟩
    unfold listB
    rw [e2, e0, e6, ← List.take_add]
    congr 1
    omega
end Go.Proofs.Ytnkaalapjlmmiaa.WirePure2
