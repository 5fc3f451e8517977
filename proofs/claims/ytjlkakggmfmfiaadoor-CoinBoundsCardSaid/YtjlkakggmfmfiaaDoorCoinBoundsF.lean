/- The closed facts of the row CoinBounds, each by itself: the kernel's memory does not hold them in one. -/
import Derived.Test.YtjlkakggmfmfiaaDoorDoorB
import Derived.Test.YtjlkakggmfmfiaaDoorTie
import Derived.Test.YtjlkakggmfmfiaaDoorCards
import Derived.SevenTiedAt
set_option maxRecDepth 100000
namespace Go.Proofs.YtjlkakggmfmfiaaDoor
open Go Go.RowKit Go.ChangeShapes Go.WideShapes Go.ChangeAt
theorem coinBounds_c0 : (Rows.coinBoundsRow.wf (OpenSpec.ofChange Rows.coinBoundsSpec)) = true := by kernel_rfl
theorem coinBounds_c2 : (mapsRowed Tryd.prog) = true := by kernel_rfl
theorem coinBounds_c3 : (Tryd.f15.params.all (Tryd.prog.readableRec ·)) = true := by kernel_rfl
theorem coinBounds_c4 : (namedTie Tryd.prog Rows.coinBoundsRow.named Rows.coinBoundsSpec.vars) = true := by kernel_rfl
theorem coinBounds_c5 : ((Rows.coinBoundsRow.stops == [])) = true := by kernel_rfl
theorem coinBounds_c6 : ((Tryd.prog.stops == [])) = true := by kernel_rfl
theorem coinBounds_c7 : ((Rows.coinBoundsRow.knobs == [])) = true := by kernel_rfl
theorem coinBounds_c8 : ((Tryd.prog.stopKnobs == [])) = true := by kernel_rfl
theorem coinBounds_c9 : ((Rows.coinBoundsRow.inPlace == Tryd.prog.inPlace 15)) = true := by kernel_rfl
theorem coinBounds_c10 : ((Rows.coinBoundsRow.unfollowed == Tryd.prog.unfollowed 15)) = true := by kernel_rfl
theorem coinBounds_c11 : ((Rows.coinBoundsRow.recurses == Tryd.prog.recurses 15)) = true := by kernel_rfl
theorem coinBounds_c12 : ((Rows.coinBoundsRow.named == Tryd.prog.varsNamed 15)) = true := by kernel_rfl
theorem coinBounds_c13 : ((Rows.coinBoundsRow.maps == (Tryd.f15.params.toList ++ Rows.coinBoundsSpec.plain.varTypes Tryd.prog).any (Tryd.prog.mapsRec ·))) = true := by kernel_rfl
theorem coinBounds_c14 : ((Rows.coinBoundsRow.ifaces == (Tryd.f15.params.toList ++ Rows.coinBoundsSpec.plain.varTypes Tryd.prog).any (Tryd.prog.ifacesRec ·))) = true := by kernel_rfl
theorem coinBounds_c15 : ((Rows.coinBoundsRow.mapsOut == Tryd.prog.mapsAmong Tryd.f15.resultTypes.toList)) = true := by kernel_rfl
theorem coinBounds_c16 : ((Rows.coinBoundsRow.loops == (Tryd.f15.params.toList ++ Rows.coinBoundsSpec.plain.varTypes Tryd.prog).any (Tryd.prog.loopsFrom ·))) = true := by kernel_rfl
theorem coinBounds_c17 : ((Rows.coinBoundsRow.wideKeys == (Tryd.f15.params.toList ++ Rows.coinBoundsSpec.plain.varTypes Tryd.prog ++ Tryd.f15.resultTypes.toList).any (Tryd.prog.wideKeysFrom ·))) = true := by kernel_rfl
theorem coinBounds_c18 : (Rows.coinBoundsSpec.vars.all (Tryd.prog.varReadable ·)) = true := by kernel_rfl
theorem coinBounds_c19 : (Tryd.f15.resultTypes.all (fun t => Tryd.prog.readableRec t && decide (t < Tryd.prog.types.size))) = true := by kernel_rfl
theorem coinBounds_c20 : ((Rows.coinBoundsRow.ifacesOut == Tryd.f15.resultTypes.toList.any (Tryd.prog.ifacesRec ·))) = true := by kernel_rfl
theorem coinBounds_c21 : ((Rows.coinBoundsRow.loopsOut == Tryd.f15.resultTypes.toList.any (Tryd.prog.loopsFrom ·))) = true := by kernel_rfl
theorem coinBounds_c22 : ((Rows.coinBoundsRow.plainKeys == Tryd.prog.plainKeys)) = true := by kernel_rfl
theorem coinBounds_c23 : (Rows.coinBoundsRow.shortTexts.isNone) = true := by kernel_rfl
theorem coinBounds_c24 : (Tryd.prog.stopsHeard) = true := by kernel_rfl
theorem coinBounds_c25 : (Tryd.prog.mayEnter) = true := by kernel_rfl
theorem coinBounds_c26 : ((Rows.coinBoundsRow.lifted == Tryd.prog.liftsFinal)) = true := by kernel_rfl
theorem coinBounds_c27 : ((Tryd.prog.make == some Rows.coinBoundsRow.make)) = true := by kernel_rfl
theorem coinBounds_c28 : ((Rows.coinBoundsRow.kinds == (if Rows.coinBoundsRow.domain.isEmpty then [] else Tryd.f15.params.toList.map fun t => match Tryd.prog.underlying t with | some (.int k) => some k | _ => none))) = true := by kernel_rfl
theorem coinBounds_c29 : ((Rows.coinBoundsRow.pinned == Rows.coinBoundsRow.pinnedBy)) = true := by kernel_rfl
theorem coinBounds_c30 : ((Rows.coinBoundsRow.veiled == (Tryd.f15.params.toList ++ Rows.coinBoundsSpec.plain.varTypes Tryd.prog ++ Tryd.f15.resultTypes.toList).any (Tryd.prog.veiledRec ·))) = true := by kernel_rfl
theorem coinBounds_c31 : (Rows.coinBoundsRow.veiledFits Tryd.prog Tryd.f15.params.toList (Tryd.f15.params.toList ++ Rows.coinBoundsSpec.plain.varTypes Tryd.prog ++ Tryd.f15.resultTypes.toList)) = true := by kernel_rfl
theorem and_tt {a b : Bool} (ha : a = true) (hb : b = true) : (a && b) = true := by rw [ha, hb]; rfl
theorem coinBounds_closed : joinedFacts Tryd.prog 15 Tryd.f15 Rows.coinBoundsSpec Rows.coinBoundsRow = true := and_tt (and_tt (and_tt (and_tt (and_tt (and_tt (and_tt (and_tt (and_tt (and_tt (and_tt (and_tt (and_tt (and_tt (and_tt (and_tt (and_tt (and_tt (and_tt (and_tt (and_tt (and_tt (and_tt (and_tt (and_tt (and_tt (and_tt (and_tt (and_tt (and_tt (and_tt (coinBounds_c0) laidOut) coinBounds_c2) coinBounds_c3) coinBounds_c4) coinBounds_c5) coinBounds_c6) coinBounds_c7) coinBounds_c8) coinBounds_c9) coinBounds_c10) coinBounds_c11) coinBounds_c12) coinBounds_c13) coinBounds_c14) coinBounds_c15) coinBounds_c16) coinBounds_c17) coinBounds_c18) coinBounds_c19) coinBounds_c20) coinBounds_c21) coinBounds_c22) coinBounds_c23) coinBounds_c24) coinBounds_c25) coinBounds_c26) coinBounds_c27) coinBounds_c28) coinBounds_c29) coinBounds_c30) coinBounds_c31
theorem coinBounds_inst : Tryd.f15.isInstance Tryd.prog Rows.coinBoundsRow.origin Rows.coinBoundsRow.targs := of_decide_eq_true (by kernel_rfl)
theorem coinBounds_wrap : Tryd.f15.isWrapper Tryd.prog Rows.coinBoundsRow.wrapper Rows.coinBoundsRow.mainSum := by
  unfold Func.isWrapper; first | (rw [if_pos (by decide +kernel)]; kernel_rfl) | (rw [if_neg (by decide +kernel)]; exact ⟨rfl, rfl⟩)
end Go.Proofs.YtjlkakggmfmfiaaDoor
