/- How an argument's slice is read element by element, in the world of the call and in any later one. Plain lemmas, no condition. -/
import Derived.Test.YtpgmfjpjjnpiiaaAWWords
import Derived.Below
namespace Go.Proofs.Ytpgmfjpjjnpiiaa.LRead
open Go.RowKit Go.Proofs.YtpgmfjpjjnpiiaaW.PrintWords
set_option linter.unusedSimpArgs false
theorem spot_none {w : World} {a : Addr} {v : Value} (h : w.cell? a = some v) : a.spot = none := by
  unfold World.cell? at h
  split at h
  · split at h
    · simp at h
    · rename_i hs
      simpa using hs
  · simp at h
/-- Where a slice that isn't empty lies, and what its elements' cells say. -/
theorem C_addr {α : Type} {d : Kd α} {w : World} {A : Option Addr} {xs : List α} (h : d.C w A xs.length xs) (hs : 0 < d.sz) (hx : 0 < xs.length) :
    ∃ b off, A = some ⟨b, off, none⟩ ∧ b < w.heap.size ∧ ∀ k p, xs[k]? = some p → ∃ c, c.length = d.sz ∧ d.K w p c ∧ ∀ j u, c[j]? = some u → w.cell? ⟨b, off + k * d.sz + j, none⟩ = some u := by
  obtain ⟨_, _, h⟩ := h
  obtain ⟨ad, rfl, hc⟩ := h hx
  have hsp : ad.spot = none ∧ ad.block < w.heap.size := by
    obtain ⟨c, hcl, _, hcell⟩ := hc 0 xs[0] (by simp)
    have hc0 : c[0]? = some (c[0]'(by omega)) := by simp
    have := hcell 0 _ hc0
    rw [Nat.zero_mul] at this
    exact ⟨spot_none (by simpa [Addr.add] using this), World.block_lt_of_cell? w ad (by simpa [Addr.add] using this)⟩
  obtain ⟨b, off, sp⟩ := ad
  simp only at hsp
  obtain ⟨rfl, hb⟩ := hsp
  refine ⟨b, off, rfl, hb, fun k p hp => ?_⟩
  obtain ⟨c, hcl, hK, hcell⟩ := hc k p hp
  refine ⟨c, hcl, hK, fun j u hu => ?_⟩
  have := hcell j u hu
  have e : (⟨b, off, none⟩ : Addr).add (k * d.sz + j) = ⟨b, off + k * d.sz + j, none⟩ := by
    unfold Addr.add
    split
    · simp_all
    · simp [Nat.add_assoc]
  rw [e] at this
  exact this
end Go.Proofs.Ytpgmfjpjjnpiiaa.LRead
