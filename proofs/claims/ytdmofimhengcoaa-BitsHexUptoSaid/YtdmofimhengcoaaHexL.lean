/- PROVED: what BitsHex asks, in plain lists, and the contracts that it uses. No condition beyond what each line says. -/
import Derived.Test.YtdmofimhengcoaaHexR
import Derived.Test.YtdmofimhengcoaaShelf
import Derived.Test.YtdmofimhengcoaaLRead
import Derived.Test.YtdmofimhengcoaaWApart
import Derived.Test.YtdmofimhengcoaaWKept
import Derived.Lib.Builder
import Derived.Shelf.Strings.Builder1
import Derived.WalkKit
import Derived.WalkSpells
import Derived.WalkLawsBesides
import Derived.WalkMore
import Derived.Outline
import Derived.Lib.Hide
import Derived.BigQuiet
import Derived.Deep.QuietTactic
import Derived.Deep.RegionHeld3
import Derived.Deep.RegionLaw
import Derived.Deep.LoopGhost
import Derived.Deep.DeepCutAuto
namespace Go.Proofs.Ytdmofimhengcoaa.HexL
open Go.RowKit Go.Proofs.Ytdmofimhengcoaa.PBitsHex Go.Proofs.YtdmofimhengcoaaW.PrintWords Go.Proofs.YtdmofimhengcoaaW.PrintLast Go.Proofs.YtdmofimhengcoaaW.PrintMore
open Go.Proofs.Ytdmofimhengcoaa.HexB Go.Proofs.Ytdmofimhengcoaa.HexQ Go.Proofs.Ytdmofimhengcoaa.HexW Go.Proofs.Ytdmofimhengcoaa.HexU Go.Proofs.Ytdmofimhengcoaa.HexV
open Go.Proofs.Ytdmofimhengcoaa.HexR
set_option linter.unusedSimpArgs false
set_option linter.unusedVariables false
theorem str_u8 (l : List Int) : strOfNums l = ⟨(u8s l).toArray⟩ := rfl
theorem bytesOf_u8 (l : List Int) (h : ∀ x ∈ l, 0 ≤ x ∧ x < 256) : bytesOf (⟨(u8s l).toArray⟩ : ByteArray) = l := by
  show (u8s l).toArray.toList.map (fun b => (b.toNat : Int)) = l
  unfold u8s
  rw [List.map_map]
  conv => rhs; rw [← List.map_id l]
  apply List.map_congr_left
  intro x hx
  have := h x hx
  show ((UInt8.ofNat x.toNat).toNat : Int) = x
  rw [UInt8.toNat_ofNat']
  omega
theorem bt_list (s : ByteArray) (j : Nat) : bt s (j : Int) = (bytesOf s).getD j 0 := (rd_bytesOf s (j : Int)).symm
theorem hexL_at : ∀ (l : List Int) (j : Nat), j < l.length → (hexL l).getD (2 * j) 0 = dig ((l.getD j 0).toNat / 16) ∧ (hexL l).getD (2 * j + 1) 0 = dig ((l.getD j 0).toNat % 16)
  | [], j, h => by simp at h
  | x :: l, 0, _ => ⟨rfl, rfl⟩
  | x :: l, j + 1, h => by
    have := hexL_at l j (by simpa using h)
    exact this
theorem u8_size (l : List Int) : (⟨(u8s l).toArray⟩ : ByteArray).size = l.length := by
  show (u8s l).toArray.size = l.length
  simp [u8s]
theorem getD_rng {l : List Int} (h : ∀ x ∈ l, 0 ≤ x ∧ x < 256) (j : Nat) : 0 ≤ l.getD j 0 ∧ l.getD j 0 < 256 := by
  rw [List.getD]
  by_cases q : j < l.length
  · rw [List.getElem?_eq_getElem q]
    exact h _ (List.getElem_mem q)
  · rw [List.getElem?_eq_none (by omega)]
    show 0 ≤ (0 : Int) ∧ (0 : Int) < 256
    omega
/-- What was written is read as it was. -/
theorem unh_hex (b : List Int) (h : ∀ x ∈ b, 0 ≤ x ∧ x < 256) : unhS ⟨(u8s (hexL b)).toArray⟩ = (b, 0) := by
  obtain ⟨t, ht⟩ : ∃ t : ByteArray, t = ⟨(u8s (hexL b)).toArray⟩ := ⟨_, rfl⟩
  have hb : bytesOf t = hexL b := by rw [ht]; exact bytesOf_u8 _ (hexL_rng b h)
  have hsz : t.size = 2 * b.length := by rw [ht, u8_size, hexL_len]
  have hv : ∀ j, j < b.length → VS t (2 * j) = (((b.getD j 0).toNat / 16 : Nat) : Int) ∧ VS t (2 * j + 1) = (((b.getD j 0).toNat % 16 : Nat) : Int) := by
    intro j hj
    have h1 := hexL_at b j hj
    have h2 := getD_rng h j
    unfold VS
    rw [bt_list, bt_list, hb, h1.1, h1.2]
    exact ⟨vi_dig ⟨(b.getD j 0).toNat / 16, by omega⟩, vi_dig ⟨(b.getD j 0).toNat % 16, by omega⟩⟩
  rw [← ht, unhS_ok hsz (fun j hj => ?_)]
  · congr 1
    apply List.ext_getElem?
    intro j
    by_cases q : j < b.length
    · have h2 := getD_rng h j
      have h3 := hv j q
      unfold decS
      rw [List.getElem?_map, List.getElem?_range q]
      show some (16 * VS t (2 * j) + VS t (2 * j + 1)) = _
      rw [h3.1, h3.2]
      have h4 : b.getD j 0 = b[j] := by rw [List.getD, List.getElem?_eq_getElem q]; rfl
      rw [List.getElem?_eq_getElem q, ← h4]
      congr 1
      omega
    · rw [List.getElem?_eq_none (by rw [decS_len]; omega), List.getElem?_eq_none (by omega)]
  · have h3 := hv (j / 2) (by omega)
    by_cases q : j % 2 = 0
    · rw [show j = 2 * (j / 2) by omega, h3.1]; omega
    · rw [show j = 2 * (j / 2) + 1 by omega, h3.2]; omega
theorem range_two (m : Nat) (f : Nat → Int) : (List.range (2 * (m + 1))).map f = (List.range (2 * m)).map f ++ [f (2 * m), f (2 * m + 1)] := by
  rw [show 2 * (m + 1) = 2 * m + 1 + 1 by omega, List.range_succ, List.range_succ]
  simp
theorem hex_dec (s : ByteArray) : ∀ m, okB s m → hexL (decS s m) = (List.range (2 * m)).map (fun (j : Nat) => bt s (j : Int))
  | 0, _ => rfl
  | m + 1, h => by
    have ih := hex_dec s m (fun j hj => h j (by omega))
    have v0 := vs_at s (2 * m)
    have v1 := vs_at s (2 * m + 1)
    have h0 := h (2 * m) (by omega)
    have h1 := h (2 * m + 1) (by omega)
    have e0 : dig (VS s (2 * m)).toNat = bt s ((2 * m : Nat) : Int) := by rcases v0 with q | q; omega; exact q.2.2
    have e1 : dig (VS s (2 * m + 1)).toNat = bt s ((2 * m + 1 : Nat) : Int) := by rcases v1 with q | q; omega; exact q.2.2
    have r0 : VS s (2 * m) < 16 := by rcases v0 with q | q; omega; exact q.2.1
    have r1 : VS s (2 * m + 1) < 16 := by rcases v1 with q | q; omega; exact q.2.1
    rw [decS_succ, hexL_app, ih, range_two]
    congr 1
    show [dig ((16 * VS s (2 * m) + VS s (2 * m + 1)).toNat / 16), dig ((16 * VS s (2 * m) + VS s (2 * m + 1)).toNat % 16)] = _
    rw [show (16 * VS s (2 * m) + VS s (2 * m + 1)).toNat / 16 = (VS s (2 * m)).toNat by omega, show (16 * VS s (2 * m) + VS s (2 * m + 1)).toNat % 16 = (VS s (2 * m + 1)).toNat by omega, e0, e1]
theorem bytes_range (s : ByteArray) : (List.range s.size).map (fun (j : Nat) => bt s (j : Int)) = bytesOf s := by
  apply List.ext_getElem?
  intro j
  by_cases q : j < s.size
  · rw [List.getElem?_map, List.getElem?_range q]
    show some (bt s (j : Int)) = _
    rw [bt_list, List.getD, List.getElem?_eq_getElem (by rw [bytesOf_length]; exact q)]
    rfl
  · rw [List.getElem?_eq_none (by simp; omega), List.getElem?_eq_none (by rw [bytesOf_length]; omega)]
theorem u8_bytes (s : ByteArray) : (⟨(u8s (bytesOf s)).toArray⟩ : ByteArray) = s := by
  have : u8s (bytesOf s) = s.data.toList := by
    unfold u8s bytesOf
    rw [List.map_map]
    conv => rhs; rw [← List.map_id s.data.toList]
    apply List.map_congr_left
    intro x _
    show UInt8.ofNat ((x.toNat : Int)).toNat = x
    rw [Int.toNat_natCast]
    exact UInt8.ofNat_toNat
  rw [this]
/-- What is read is written as it was. -/
theorem hex_unh {s : ByteArray} {d : List Int} (h : unhS s = (d, 0)) : (⟨(u8s (hexL d)).toArray⟩ : ByteArray) = s := by
  have hodd : ¬ s.size % 2 = 1 := fun q => by rw [unhS_odd q] at h; cases h
  have hsz : s.size = 2 * (s.size / 2) := by omega
  by_cases q : okB s (s.size / 2)
  · rw [unhS_ok hsz q] at h
    rw [← (Prod.mk.inj h).1, hex_dec s _ q, ← hsz, bytes_range, u8_bytes]
  · rw [unhS_bad hsz q] at h; cases h
theorem unh_rng (s : ByteArray) : ∀ x ∈ (unhS s).1, 0 ≤ x ∧ x < 256 := by
  have key : ∀ m, ∀ x ∈ decS s m, okB s m → 0 ≤ x ∧ x < 256 := by
    intro m x hx ho
    simp only [decS, List.mem_map, List.mem_range] at hx
    obtain ⟨j, hj, rfl⟩ := hx
    have v0 := vs_at s (2 * j)
    have v1 := vs_at s (2 * j + 1)
    have h0 := ho (2 * j) (by omega)
    have h1 := ho (2 * j + 1) (by omega)
    omega
  intro x hx
  unfold unhS at hx
  split at hx
  · simp at hx
  · split at hx
    · rename_i q
      exact key _ x hx ((okb_iff _ _).1 q)
    · simp at hx
theorem unh_two (s : ByteArray) : unhS s = ([], 1) ∨ ∃ d, unhS s = (d, 0) ∧ 2 * d.length = s.size := by
  unfold unhS
  split
  · exact .inl rfl
  · split
    · exact .inr ⟨_, rfl, by rw [decS_len]; omega⟩
    · exact .inl rfl
theorem same_f (l : List Int) (hb : l.length ≤ 4000000) : juratref01_Same.f (l.length + 1) l l = some true := by
  have key : ∀ (k i : Nat), i ≤ l.length → l.length - i < k → juratref01_Same.l0 k l l i = some true := by
    intro k
    induction k with
    | zero => intro i _ hk; omega
    | succ k ih =>
      intro i hi hk
      unfold juratref01_Same.l0
      by_cases q : i < l.length
      · rw [if_pos (by omega), if_pos (by omega), if_pos (by omega), if_pos rfl, show wrap64 ((i : Int) + 1) = ((i + 1 : Nat) : Int) by unfold wrap64; omega]
        exact ih (i + 1) (by omega) (by omega)
      · rw [if_neg (by omega)]
  unfold juratref01_Same.f
  rw [if_pos rfl]
  exact key (l.length + 1) 0 (by omega) (by omega)
theorem same_y (A B : Option Addr) (c0 c1 : Nat) (l : List Int) (w : World) (h0 : Kd.C (Kd.int .u8) w A l.length l) (h1 : l.length ≤ c0) (h2 : Kd.C (Kd.int .u8) w B l.length l) (h3 : l.length ≤ c1) (hb : l.length ≤ 4000000) :
    Calls Try.prog 15 #[.slice A l.length c0, .slice B l.length c1] w fun e w' => e = .returned (.bool true) ∧ Below w.heap.size w w' :=
  (juratref01_Same.calls (l.length + 1) A c0 l B c1 l _ w h0 h1 h2 h3 (same_f l hb)).mono fun e w' ⟨he, hd⟩ => ⟨he, hd.below⟩
theorem hex_z (A : Option Addr) (c n : Nat) (l : List Int) (t : ByteArray) (w : World) (hn : n = l.length) (hC : Kd.C (Kd.int .u8) w A l.length l) (hcap : l.length ≤ c) (hby : ∀ x ∈ l, 0 ≤ x ∧ x < 256) (hl : l.length ≤ 10000000) (ht : (⟨(u8s (hexL l)).toArray⟩ : ByteArray) = t) :
    Calls Try.prog 20 #[.slice A n c] w fun e w' => e = .returned (.string t) ∧ Below w.heap.size w w' := by
  subst hn; subst ht
  exact hex_ok A c l w hC hcap hby hl
theorem rhex_z (A : Option Addr) (c : Nat) (l : List Int) (t : ByteArray) (w : World) (hC : Kd.C (Kd.int .u8) w A l.length l) (hcap : l.length ≤ c) (hby : ∀ x ∈ l, 0 ≤ x ∧ x < 256) (hl : l.length ≤ 10000000) (ht : (⟨(u8s (hexL l)).toArray⟩ : ByteArray) = t) :
    Calls Try.prog 23 #[.slice A l.length c] w fun e w' => e = .returned (.string t) ∧ Below w.heap.size w w' := by
  subst ht
  exact rhex_ok A c l w hC hcap hby hl
theorem unhex_z (s : ByteArray) (l : List Int) (k : Int) (hm : s.size ≤ 4000000) (w : World) (h : unhS s = (l, k)) : Calls Try.prog 21 #[.string s] w fun e w' => ∃ A c, e = .returned (.tuple #[.slice A l.length c, .int .i64 k]) ∧ (l.length ≤ c ∧ Kd.C (Kd.int .u8) w' A l.length l) ∧ Below w.heap.size w w' := by
  have := unhex_ok s hm w
  rw [h] at this
  refine this.mono fun e w' ⟨A, c, he, hR, hB⟩ => ⟨A, c, he, ⟨(Kd.R_reads' hR).2.1, (Kd.R_reads' hR).2.2⟩, hB⟩
theorem runhex_z (s : ByteArray) (l : List Int) (k : Int) (hm : s.size ≤ 4000000) (w : World) (h : unhS s = (l, k)) : Calls Try.prog 22 #[.string s] w fun e w' => ∃ A c, e = .returned (.tuple #[.slice A l.length c, .int .i64 k]) ∧ (l.length ≤ c ∧ Kd.C (Kd.int .u8) w' A l.length l) ∧ Below w.heap.size w w' := by
  have := runhex_ok s hm w
  rw [h] at this
  refine this.mono fun e w' ⟨A, c, he, hR, hB⟩ => ⟨A, c, he, ⟨(Kd.R_reads' hR).2.1, (Kd.R_reads' hR).2.2⟩, hB⟩
theorem last_hex : (⟨(u8s (hexL [10, 255])).toArray⟩ : ByteArray) = ⟨#[48, 97, 102, 102]⟩ := by decide +kernel
theorem by_last : ∀ x ∈ ([10, 255] : List Int), 0 ≤ x ∧ x < 256 := by decide
end Go.Proofs.Ytdmofimhengcoaa.HexL
