/- What is wrong with a transaction; its bytes: in plain terms. -/
import Derived.Test.YtjlkakggmfmfiaaTxK
set_option maxRecDepth 100000
set_option linter.unusedVariables false
namespace Go.Proofs.Ytjlkakggmfmfiaa
open Go Go.RowKit
def witErr (ss : List ByteArray) : Bool := ss.any fun s => decide (10000 < s.size)
def inErr (x : TIn) : Int := if 100 < x.wit.length then 3 else if 10000 < x.script.size then 6 else if witErr x.wit then 6 else 0
def insErr : List TIn → Int
  | [] => 0
  | x :: r => if inErr x = 0 then insErr r else inErr x
def outsErr (os : List TOut) : Bool := os.any fun o => decide (10000 < o.script.size)
/-- What is wrong with a transaction. -/
def checkF (t : TTx) : Int :=
  if t.ins.length = 0 ∨ t.outs.length = 0 then 1 else if 1024 < t.ins.length ∨ 1024 < t.outs.length then 3
  else if insErr t.ins ≠ 0 then insErr t.ins else if outsErr t.outs then 6 else 0
theorem textF_length (s : ByteArray) : (textF s).length = (compF s.size).length + s.size := by rw [textF, List.length_append, bytesOf_length]
theorem flat_le {α : Type} (f : α → List Int) (M : Nat) : ∀ (xs : List α), (∀ x ∈ xs, (f x).length ≤ M) → (xs.flatMap f).length ≤ xs.length * M
  | [], _ => by simp
  | x :: xs, h => by
    have h1 := h x (by simp)
    have h2 := flat_le f M xs (fun y hy => h y (List.mem_cons_of_mem _ hy))
    simp only [List.flatMap_cons, List.length_append, List.length_cons, Nat.add_mul]
    omega
theorem insErr_all : ∀ (ins : List TIn), insErr ins = 0 → ∀ x ∈ ins, inErr x = 0
  | [], _, x, hx => by cases hx
  | y :: r, h, x, hx => by
    rw [insErr] at h
    by_cases h1 : inErr y = 0
    · rw [if_pos h1] at h
      rcases List.mem_cons.1 hx with rfl | hx
      · exact h1
      · exact insErr_all r h x hx
    · rw [if_neg h1] at h
      exact absurd h h1
theorem inErr_bounds {x : TIn} (h : inErr x = 0) : x.wit.length ≤ 100 ∧ x.script.size ≤ 10000 ∧ ∀ s ∈ x.wit, s.size ≤ 10000 := by
  unfold inErr at h
  split at h
  · cases h
  · split at h
    · cases h
    · split at h
      · cases h
      · rename_i h1 h2 h3
        refine ⟨by omega, by omega, fun s hs => ?_⟩
        simp only [witErr, Bool.not_eq_true, List.any_eq_false, decide_eq_true_eq] at h3
        have := h3 s hs
        omega
theorem outsErr_bounds {os : List TOut} (h : outsErr os = false) : ∀ o ∈ os, o.script.size ≤ 10000 := by
  intro o ho
  simp only [outsErr, List.any_eq_false, decide_eq_true_eq] at h
  have := h o ho
  omega
structure Bounds (t : TTx) : Prop where
  i0 : 0 < t.ins.length
  o0 : 0 < t.outs.length
  i1 : t.ins.length ≤ 1024
  o1 : t.outs.length ≤ 1024
  ins : ∀ x ∈ t.ins, x.wit.length ≤ 100 ∧ x.script.size ≤ 10000 ∧ ∀ s ∈ x.wit, s.size ≤ 10000
  outs : ∀ o ∈ t.outs, o.script.size ≤ 10000
theorem checkF_zero {t : TTx} (h : checkF t = 0) : Bounds t := by
  unfold checkF at h
  split at h
  · cases h
  · split at h
    · cases h
    · split at h
      · rename_i h1 h2 h3
        exact absurd h h3
      · split at h
        · cases h
        · rename_i h1 h2 h3 h4
          have h3' : insErr t.ins = 0 := Decidable.byContradiction h3
          exact ⟨by omega, by omega, by omega, by omega, fun x hx => inErr_bounds (insErr_all _ h3' x hx), outsErr_bounds (by simpa using h4)⟩
theorem textF_le {s : ByteArray} (h : s.size ≤ 10000) : (textF s).length ≤ 10009 := by have := textF_length s; have := compF_le s.size; omega
theorem layF_le (t : TTx) (hi : ∀ x ∈ t.ins, x.id.length = 32) (h : Bounds t) (wit : Bool) : (layF t wit).length ≤ 9000000000 := by
  have a1 := flat_le layIn 10049 t.ins (fun x hx => by
    have := hi x hx
    have := textF_le (h.ins x hx).2.1
    simp only [layIn, List.length_append, leF_length]
    omega)
  have a2 := flat_le layOut 10017 t.outs (fun o ho => by
    have := textF_le (h.outs o ho)
    simp only [layOut, List.length_append, leF_length]
    omega)
  have a3 := flat_le layWit 1000909 t.ins (fun x hx => by
    have h1 := flat_le textF 10009 x.wit (fun s hs => textF_le ((h.ins x hx).2.2 s hs))
    have h2 := compF_le x.wit.length
    have h3 := (h.ins x hx).1
    simp only [layWit, List.length_append]
    omega)
  have c1 := compF_le t.ins.length
  have c2 := compF_le t.outs.length
  have := h.i1
  have := h.o1
  simp only [layF, List.length_append, leF_length]
  cases wit
  · simp only [Bool.false_eq_true, if_false, List.length_nil]
    omega
  · simp only [if_true, List.length_cons, List.length_nil]
    omega
/-- Why a transaction has no bytes; 0: it has. -/
def encErr (t : TTx) : Int := if checkF t ≠ 0 then checkF t else if 65536 < (layF t t.hasWit).length then 6 else 0
def encF (t : TTx) : List Int := layF t t.hasWit
end Go.Proofs.Ytjlkakggmfmfiaa
