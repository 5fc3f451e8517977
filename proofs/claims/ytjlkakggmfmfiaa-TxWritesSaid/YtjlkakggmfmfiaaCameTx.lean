/- Transactions that came in are of their kind. -/
import Derived.Test.YtjlkakggmfmfiaaTxK
import Derived.Test.YtjlkakggmfmfiaaGen0
set_option maxRecDepth 100000
namespace Go.Proofs.Ytjlkakggmfmfiaa
open Go Go.ChangeShapes Go.WideShapes Go.ChangeAt Go.RowKit
theorem came_h32 {P : Program} {t e : TypeId} (ht : P.underlying t = some (.array 32 e)) (he : P.underlying e = some (.int .u8)) (hc : P.cellsOf e = 1) (hct : P.cellsOf t = 32) : Came P t (RK.hash 32) :=
  ⟨hct, by show 0 < 32; omega, fun h => by
    obtain ⟨ns, h1, h2, h3⟩ := trod_nums ht he hc hct h
    exact ⟨ns, h2, h1, bytes_of_wf h3⟩⟩
theorem came_point : Came Try.prog 58 (RK.pair (RK.hash 32) (RK.int .u32)) :=
  came_struct Try.underlying58 (by kernel_rfl) (cameF_cons rfl (came_h32 Try.underlying23 Try.underlying5 (by kernel_rfl) (by kernel_rfl)) (cameF_one rfl (came_int Try.underlying33 (by kernel_rfl))))
theorem came_in : Came Try.prog 61 inK :=
  Came.conv (d := inP) (came_struct Try.underlying61 (by kernel_rfl) (cameF_cons rfl came_point (cameF_cons rfl (came_str Try.underlying9 (by kernel_rfl)) (cameF_cons rfl (came_int Try.underlying33 (by kernel_rfl)) (cameF_one rfl (came_slice Try.underlying59 (by kernel_rfl) (came_str Try.underlying9 (by kernel_rfl)))))))) rfl inP_conv
theorem came_out : Came Try.prog 63 outK :=
  Came.conv (d := outP) (came_struct Try.underlying63 (by kernel_rfl) (cameF_cons rfl (came_int Try.underlying2 (by kernel_rfl)) (cameF_one rfl (came_str Try.underlying9 (by kernel_rfl))))) rfl outP_conv
theorem came_tx : Came Try.prog 35 txK :=
  Came.conv (d := txP) (came_struct Try.underlying35 (by kernel_rfl) (cameF_cons rfl (came_int Try.underlying21 (by kernel_rfl)) (cameF_cons rfl (came_slice Try.underlying31 (by kernel_rfl) came_in) (cameF_cons rfl (came_slice Try.underlying32 (by kernel_rfl) came_out) (cameF_one rfl (came_int Try.underlying33 (by kernel_rfl))))))) rfl txP_conv
end Go.Proofs.Ytjlkakggmfmfiaa
