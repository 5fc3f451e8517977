/- The closed facts of the row TxLines, apart: the kernel's memory does not hold them beside the walk. -/
import Derived.Test.YtjlkakggmfmfiaaDoorDoor
import Derived.Test.YtjlkakggmfmfiaaDoorTie
import Derived.Test.YtjlkakggmfmfiaaDoorCards
import Derived.SevenTiedAt
set_option maxRecDepth 100000
namespace Go.Proofs.YtjlkakggmfmfiaaDoor
open Go Go.RowKit Go.ChangeShapes Go.WideShapes Go.ChangeAt
theorem txLines_closed : joinedFacts Tryd.prog 13 Tryd.f13 Rows.txLinesSpec Rows.txLinesRow = true := by kernel_rfl
theorem txLines_inst : Tryd.f13.isInstance Tryd.prog Rows.txLinesRow.origin Rows.txLinesRow.targs := of_decide_eq_true (by kernel_rfl)
theorem txLines_wrap : Tryd.f13.isWrapper Tryd.prog Rows.txLinesRow.wrapper Rows.txLinesRow.mainSum := by
  unfold Func.isWrapper; first | (rw [if_pos (by decide +kernel)]; kernel_rfl) | (rw [if_neg (by decide +kernel)]; exact ⟨rfl, rfl⟩)
end Go.Proofs.YtjlkakggmfmfiaaDoor
