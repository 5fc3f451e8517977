/- The closed facts of the row TxCoins, apart: the kernel's memory does not hold them beside the walk. -/
import Derived.Test.YtjlkakggmfmfiaaDoorDoorN
import Derived.Test.YtjlkakggmfmfiaaDoorTie
import Derived.Test.YtjlkakggmfmfiaaDoorCards
import Derived.SevenTiedAt
set_option maxRecDepth 100000
namespace Go.Proofs.YtjlkakggmfmfiaaDoor
open Go Go.RowKit Go.ChangeShapes Go.WideShapes Go.ChangeAt
theorem txCoins_closed : joinedFacts Tryd.prog 11 Tryd.f11 Rows.txCoinsSpec Rows.txCoinsRow = true := by kernel_rfl
theorem txCoins_inst : Tryd.f11.isInstance Tryd.prog Rows.txCoinsRow.origin Rows.txCoinsRow.targs := of_decide_eq_true (by kernel_rfl)
theorem txCoins_wrap : Tryd.f11.isWrapper Tryd.prog Rows.txCoinsRow.wrapper Rows.txCoinsRow.mainSum := by
  unfold Func.isWrapper; first | (rw [if_pos (by decide +kernel)]; kernel_rfl) | (rw [if_neg (by decide +kernel)]; exact ⟨rfl, rfl⟩)
end Go.Proofs.YtjlkakggmfmfiaaDoor
