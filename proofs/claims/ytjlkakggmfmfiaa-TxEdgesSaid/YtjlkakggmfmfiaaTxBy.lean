/- The bytes of a transaction are bytes. -/
import Derived.Test.YtjlkakggmfmfiaaTxPure
set_option linter.unusedVariables false
namespace Go.Proofs.Ytjlkakggmfmfiaa
open Go Go.RowKit
theorem flat_bytes {α : Type} (f : α → List Int) : ∀ (xs : List α), (∀ x ∈ xs, Bytes (f x)) → Bytes (xs.flatMap f)
  | [], _ => Bytes.nil
  | x :: xs, h => by
    rw [List.flatMap_cons]
    exact (h x (by simp)).append (flat_bytes f xs (fun y hy => h y (List.mem_cons_of_mem _ hy)))
theorem textF_bytes (s : ByteArray) : Bytes (textF s) := (compF_bytes _).append (bytesOf_bytes s)
theorem layF_bytes {t : TTx} (h : t.Ok) (wit : Bool) : Bytes (layF t wit) := by
  have h1 : Bytes (t.ins.flatMap layIn) := flat_bytes _ _ (fun x hx => (((h.ins x hx).idb.append (leF_bytes _ _)).append (textF_bytes _)).append (leF_bytes _ _))
  have h2 : Bytes (t.outs.flatMap layOut) := flat_bytes _ _ (fun x hx => (leF_bytes _ _).append (textF_bytes _))
  have h3 : Bytes (t.ins.flatMap layWit) := flat_bytes _ _ (fun x hx => (compF_bytes _).append (flat_bytes _ _ (fun s _ => textF_bytes s)))
  have hf : Bytes (if wit then [0, 1] else []) := by
    cases wit
    · exact Bytes.nil
    · intro x hx
      rcases List.mem_cons.1 hx with rfl | hx
      · omega
      · rw [List.mem_singleton.1 hx]; omega
  have hw : Bytes (if wit then t.ins.flatMap layWit else []) := by
    cases wit
    · exact Bytes.nil
    · exact h3
  exact (((((((leF_bytes _ _).append hf).append (compF_bytes _)).append h1).append (compF_bytes _)).append h2).append hw).append (leF_bytes _ _)
end Go.Proofs.Ytjlkakggmfmfiaa
