/- The reader of tx.Decode in plain terms: what is left, what each step takes. -/
import Derived.Test.YtjlkakggmfmfiaaExpPure
set_option maxRecDepth 100000
set_option linter.unusedVariables false
namespace Go.Proofs.Ytjlkakggmfmfiaa
open Go Go.RowKit
/-- What is left to be read, and the first error. -/
structure PSt where
  bs : List Int
  e : Int
def PSt.takeB (p : PSt) (n : Nat) : List Int := if p.e = 0 ∧ n ≤ p.bs.length then p.bs.take n else []
def PSt.take (p : PSt) (n : Nat) : PSt := if p.e = 0 then (if n ≤ p.bs.length then ⟨p.bs.drop n, 0⟩ else ⟨p.bs, 8⟩) else p
def PSt.countV (p : PSt) (most : Nat) : Nat := if p.e ≠ 0 then 0 else if (expF p.bs).2.2 ≠ 0 then 0 else if (most : Int) < (expF p.bs).1 then 0 else (expF p.bs).1.toNat
def PSt.count (p : PSt) (most : Nat) : PSt := if p.e ≠ 0 then p else if (expF p.bs).2.2 ≠ 0 then ⟨p.bs, (expF p.bs).2.2⟩ else if (most : Int) < (expF p.bs).1 then ⟨p.bs, 2⟩ else ⟨p.bs.drop (expF p.bs).2.1, 0⟩
def PSt.textB (p : PSt) : List Int := (p.count 10000).takeB (p.countV 10000)
def PSt.text (p : PSt) : PSt := (p.count 10000).take (p.countV 10000)
theorem PSt.takeB_len (p : PSt) (n : Nat) : (p.takeB n).length ≤ n := by
  unfold PSt.takeB
  split
  · exact List.length_take_le _ _
  · simp
theorem PSt.takeB_bytes {p : PSt} (h : Bytes p.bs) (n : Nat) : Bytes (p.takeB n) := by
  unfold PSt.takeB
  split
  · exact h.take n
  · exact Bytes.nil
end Go.Proofs.Ytjlkakggmfmfiaa
