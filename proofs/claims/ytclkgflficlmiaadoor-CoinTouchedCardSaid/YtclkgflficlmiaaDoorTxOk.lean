/- A transaction that came in is in its ranges; one that has bytes is in its bounds. -/
import Derived.Test.YtclkgflficlmiaaDoorTxFn
import Derived.Test.YtclkgflficlmiaaDoorTxLaw
set_option linter.unusedVariables false
namespace Go.Proofs.YtclkgflficlmiaaDoor
open Go Go.RowKit
theorem txK_okT {S : Nat → Prop} {w : World} {t : TTx} {cs : List Value} (h : txK.K S w t cs) : t.Ok := by
  have hi := tx_ids h
  obtain ⟨A1, n1, c1, A2, n2, c2, _, hv, hl, _, _, _, _, hI, hO⟩ := h
  refine ⟨hv.1, hv.2, hl.1, hl.2, hi, fun x hx => ?_⟩
  obtain ⟨i, hi, rfl⟩ := List.mem_iff_getElem.1 hx
  obtain ⟨b, o, hA, _, _, hc⟩ := hO.2 (by have := hO.1; omega)
  obtain ⟨cs, hK, _⟩ := hc i _ (List.getElem?_eq_getElem hi)
  exact hK.2
theorem encErr_zero {t : TTx} (h : encErr t = 0) : Bounds t ∧ (encF t).length ≤ 65536 := by
  unfold encErr at h
  split at h
  · rename_i h1
    exact absurd h h1
  · rename_i h1
    have h1 : checkF t = 0 := Decidable.byContradiction h1
    refine ⟨checkF_zero h1, ?_⟩
    split at h
    · cases h
    · rename_i h2
      unfold encF
      omega
theorem encF_pos (t : TTx) : 4 ≤ (encF t).length := by
  unfold encF layF
  simp only [List.length_append, leF_length]
  omega
end Go.Proofs.YtclkgflficlmiaaDoor
