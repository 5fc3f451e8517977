/- What TxLines needs of rows of transactions and of bytes. -/
import Derived.Test.YtclkgflficlmiaaDoorTxId
import Derived.Test.YtclkgflficlmiaaDoorTxOk
import Derived.Test.YtclkgflficlmiaaDoorDecFin
set_option maxRecDepth 100000
set_option linter.unusedVariables false
namespace Go.Proofs.YtclkgflficlmiaaDoor
open Go Go.RowKit
namespace RK
theorem Own.kept {α : Type} {d : RK α} {S : Nat → Prop} {w w' : World} {base n : Nat} {e : TypeId} {v : Value} {xs : List α} {row : Option Nat} (h : d.Own S w base e v n xs) (hg : w.grownBy w' row) (hv : v.ownBlock = none ∨ v.ownBlock ≠ row) (hS : ∀ k, S k → some k ≠ row) : d.Own S w' base e v n xs := by
  obtain ⟨h1, cells, h2, h3⟩ := h
  refine ⟨h1, cells, h2.kept hg hv, fun i x hx => ?_⟩
  obtain ⟨cs, hK, hcs⟩ := h3 i x hx
  exact ⟨cs, d.move (fun k hk hlt => hg.block k hlt (hS k hk)) hK, hcs⟩
theorem Own.ne {α : Type} {d : RK α} {S : Nat → Prop} {w : World} {b b' n n' s' : Nat} {e e' : TypeId} {v v' : Value} {xs : List α} {ys : List Value} (h : d.Own S w b e v n xs) (h' : w.ownsRow b' e' s' v' n' ys) (hne : e ≠ e') : (v.ownBlock = none ∨ v.ownBlock ≠ v'.ownBlock) ∧ (v'.ownBlock = none ∨ v'.ownBlock ≠ v.ownBlock) := by
  obtain ⟨h1, cells, h2, h3⟩ := h
  exact ⟨own_type_ne h2 h' hne, own_type_ne h' h2 (fun e => hne e.symm)⟩
end RK
/-- A transaction whose bytes may be put into the line. -/
structure GoodT (t : TTx) : Prop where
  ok : t.Ok
  err : encErr t = 0
  len : (encF t).length < 5000
  ins : t.ins.length ≤ 1030
  outs : t.outs.length ≤ 1030
def linesF (us : List TTx) : List Int := us.flatMap encF
theorem linesF_add (us : List TTx) (t : TTx) : linesF (us ++ [t]) = linesF us ++ encF t := by simp [linesF]
theorem linesF_bytes : ∀ (us : List TTx), (∀ t ∈ us, GoodT t) → Bytes (linesF us)
  | [], _ => by intro x hx; simp [linesF] at hx
  | t :: us, h => by
    show Bytes (encF t ++ linesF us)
    exact (layF_bytes (h t (by simp)).ok _).append (linesF_bytes us (fun x hx => h x (by simp [hx])))
theorem linesF_drop {us : List TTx} {j : Nat} {t : TTx} (h : us[j]? = some t) : linesF (us.drop j) = encF t ++ linesF (us.drop (j + 1)) := by
  obtain ⟨hk, hx⟩ := List.getElem?_eq_some_iff.1 h
  rw [List.drop_eq_getElem_cons hk, hx]
  rfl
theorem linesF_le : ∀ (us : List TTx), (∀ t ∈ us, GoodT t) → (linesF us).length ≤ us.length * 5000
  | [], _ => by simp [linesF]
  | t :: us, h => by
    have h1 := linesF_le us (fun x hx => h x (by simp [hx]))
    have h2 := (h t (by simp)).len
    show (encF t ++ linesF us).length ≤ _
    rw [List.length_append, List.length_cons]
    omega
theorem zinfo_tx : (Tryd.prog.info? 54).map (fun i => (i.zero, i.size, i.bytes)) = some (some (.agg #[.int .i32 0, .slice none 0 0, .slice none 0 0, .int .u32 0]), 4, 64) := by kernel_rfl
theorem cell_lt {w : World} {b o : Nat} {v : Value} (h : w.cell? ⟨b, o, none⟩ = some v) : b < w.heap.size := by
  rcases Nat.lt_or_ge b w.heap.size with h1 | h1
  · exact h1
  · have : w.heap[b]? = none := Array.getElem?_eq_none h1
    simp [World.cell?, this] at h
theorem rd_lt {w : World} {D o n : Nat} {x : Value} {xs : List Value} (h : Rd w (some ⟨D, o, none⟩) n (x :: xs)) : D < w.heap.size := by
  have hn : 0 < n := by have := h.1; simp at this; omega
  obtain ⟨b, o', e, hc⟩ := h.2 hn
  injection e with e
  injection e with e1 e2
  subst e1
  have := hc 0 x rfl
  exact cell_lt this
theorem rd_cutA {w : World} {A : Option Addr} {n c : Nat} {xs : List Value} (h : Rd w A n xs) (m : Nat) (hm : m ≤ n) (hc : n ≤ c) : Rd w (cutA A c m) (n - m) (xs.drop m) := by
  unfold cutA
  exact h.drop_ m hm hc
end Go.Proofs.YtclkgflficlmiaaDoor
