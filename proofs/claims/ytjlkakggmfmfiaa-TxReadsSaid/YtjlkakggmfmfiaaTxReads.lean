/- TxReads: whatever bytes: the program's reader and the reference's find the same transaction, or the same fault, and it is written again just so. No condition. -/
import Derived.Test.YtjlkakggmfmfiaaTxReadsW
set_option maxRecDepth 100000
set_option linter.unusedVariables false
namespace Go.Proofs.Ytjlkakggmfmfiaa
open Go Go.RowKit

/-! ### the row -/
open Go.ChangeShapes Go.WideShapes Go.ChangeAt
theorem txReads_lifted (os : Os) (started : os.Started) (H : Type) (enc : TypeId × Value → H) :
    ReturnsInHanded {} Try.checked os 6 .any (Rows.txReadsSpec.pre6 enc Try.prog Try.f6 Rows.txReadsRow.domain false) (Rows.txReadsSpec.post enc Try.prog Try.f6 false true false false) := by
  refine returnsInHanded_of_change (C := Try.checked) own started (by kernel_rfl) Try.func6
    (ChangeSpec.witness6 (enc := enc) (C := Try.checked) false ⟨#[], #[.slice none 0 0], []⟩ 8 (by kernel_rfl) (by kernel_rfl) (by kernel_rfl) (by kernel_rfl)) ?_
  intro W base args ds gs before hval0 hW _ _
  have hval : ∀ (j : Nat) t v, Try.f6.params[j]? = some t → args[j]? = some v → Value.okWide Try.prog W .any base t v := hval0
  have hW' := hW
  obtain ⟨p, q, hA0, _, _, _, _⟩ := hW
  have hA : DataW.TrodAll enc Try.prog W 0 (fun _ => true) true Try.f6.params.toList args.toList ds p := hA0
  rw [Try.params6] at hA hval
  obtain ⟨v0, vs0, d0, ds0, p0, q0, hargs, rfl, rfl, h0, r0⟩ := trodAll_cons hA
  obtain ⟨rfl, rfl, rfl⟩ := trodAll_nil r0
  obtain rfl : args = #[v0] := by cases args; simp_all
  obtain ⟨A0, n0, c0, a0, rfl, k0, m0, w0⟩ := open_slice Try.underlying36 (by kernel_rfl) came_u8 (hval 0 36 v0 rfl rfl) h0
  refine (txReads_walk W A0 n0 c0 a0 k0 m0 w0).mono fun e W' ⟨he, bel⟩ => ⟨_, he, ?_⟩
  exact law_post (tb := 4) laidOut (by kernel_rfl) Try.underlying4 rfl rfl (fun ds h => match ds, h with | [d0], _ => rfl) hW' bel
theorem txReads_over : Rows.txReadsRow.holds Try.pinned (OpenSpec.ofChange Rows.txReadsSpec) :=
  OpenClaim.holds_of_wide 6 Try.f6 rfl rfl rfl rfl rfl rfl rfl ⟨rfl, rfl, rfl, rfl, rfl⟩ rfl rfl rfl rfl rfl (by kernel_rfl) Try.func6 (by kernel_rfl)
    (of_decide_eq_true (by kernel_rfl)) (by unfold Func.isWrapper; first | (rw [if_pos (by decide +kernel)]; kernel_rfl) | (rw [if_neg (by decide +kernel)]; exact ⟨rfl, rfl⟩))
    (fun os started H enc _ => txReads_lifted os started H enc)
theorem txReads_holds : Rows.TxReadsSaid := txReads_over
#print axioms txReads_holds
end Go.Proofs.Ytjlkakggmfmfiaa
