/- A number as Bitcoin lays it, read: in plain terms. -/
import Derived.Test.YtjlkakggmfmfiaaTxK
set_option maxRecDepth 100000
set_option linter.unusedVariables false
namespace Go.Proofs.Ytjlkakggmfmfiaa
open Go Go.RowKit
def sizF (b : Int) : Nat := if b = 253 then 2 else if b = 254 then 4 else 8
/-- The number that bytes begin with, how many bytes it has, the error. -/
def expF : List Int → Int × Nat × Int
  | [] => (0, 0, 8)
  | b :: r => if b < 253 then (b, 1, 0) else if r.length < sizF b then (0, 0, 8)
    else if (compF (ofLE (r.take (sizF b))).toNat).length ≠ 1 + sizF b then (0, 0, 2) else (ofLE (r.take (sizF b)), 1 + sizF b, 0)
theorem expF_cut {bs : List Int} {x : Int} {k : Nat} (h : expF bs = (x, k, 0)) : k ≤ bs.length ∧ 1 ≤ k ∧ k ≤ 9 := by
  match bs with
  | [] => cases h
  | b :: r =>
    simp only [expF] at h
    have hs : 1 ≤ sizF b ∧ sizF b ≤ 8 := by unfold sizF; split <;> (try split) <;> omega
    split at h
    · simp only [Prod.mk.injEq] at h
      simp only [List.length_cons]
      omega
    · split at h
      · simp at h
      · split at h
        · simp at h
        · simp only [Prod.mk.injEq] at h
          simp only [List.length_cons]
          omega
theorem expF_range {bs : List Int} (hb : Bytes bs) : 0 ≤ (expF bs).1 ∧ (expF bs).1 < 18446744073709551616 := by
  match bs with
  | [] => simp [expF]
  | b :: r =>
    have h0 := hb b (by simp)
    have hr : Bytes r := fun x hx => hb x (List.mem_cons_of_mem _ hx)
    have hs : sizF b ≤ 8 := by unfold sizF; split <;> (try split) <;> omega
    have h1 := ofLE_range (r.take (sizF b)) (hr.take _)
    have h2 : (256 : Nat) ^ (r.take (sizF b)).length ≤ 256 ^ 8 := Nat.pow_le_pow_right (by decide) (by rw [List.length_take]; omega)
    have h3 : (256 : Int) ^ (r.take (sizF b)).length = ((256 ^ (r.take (sizF b)).length : Nat) : Int) := by rw [Int.natCast_pow]; rfl
    simp only [expF]
    split
    · simp only; omega
    · split
      · simp
      · split
        · simp
        · simp only; omega
end Go.Proofs.Ytjlkakggmfmfiaa
