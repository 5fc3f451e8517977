/- The closed facts of the row TxIds, apart: the kernel's memory does not hold them beside the walk. -/
import Derived.Test.YtjlkakggmfmfiaaDoorDoor
import Derived.Test.YtjlkakggmfmfiaaDoorTie
import Derived.Test.YtjlkakggmfmfiaaDoorCards
import Derived.SevenTiedAt
set_option maxRecDepth 100000
namespace Go.Proofs.YtjlkakggmfmfiaaDoor
open Go Go.RowKit Go.ChangeShapes Go.WideShapes Go.ChangeAt
theorem txIds_closed : joinedFacts Tryd.prog 12 Tryd.f12 Rows.txIdsSpec Rows.txIdsRow = true := by kernel_rfl
theorem txIds_inst : Tryd.f12.isInstance Tryd.prog Rows.txIdsRow.origin Rows.txIdsRow.targs := of_decide_eq_true (by kernel_rfl)
theorem txIds_wrap : Tryd.f12.isWrapper Tryd.prog Rows.txIdsRow.wrapper Rows.txIdsRow.mainSum := by
  unfold Func.isWrapper; first | (rw [if_pos (by decide +kernel)]; kernel_rfl) | (rw [if_neg (by decide +kernel)]; exact ⟨rfl, rfl⟩)
end Go.Proofs.YtjlkakggmfmfiaaDoor
