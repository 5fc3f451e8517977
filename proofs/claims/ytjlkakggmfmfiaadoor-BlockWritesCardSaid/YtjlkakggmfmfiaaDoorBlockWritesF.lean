/- The closed facts of the row BlockWrites, each by itself: the kernel's memory does not hold them in one. -/
import Derived.Test.YtjlkakggmfmfiaaDoorDoor
import Derived.Test.YtjlkakggmfmfiaaDoorTie
import Derived.Test.YtjlkakggmfmfiaaDoorCards
import Derived.SevenTiedAt
set_option maxRecDepth 100000
namespace Go.Proofs.YtjlkakggmfmfiaaDoor
open Go Go.RowKit Go.ChangeShapes Go.WideShapes Go.ChangeAt
theorem blockWrites_c0 : (Rows.blockWritesRow.wf (OpenSpec.ofChange Rows.blockWritesSpec)) = true := by kernel_rfl
theorem blockWrites_c2 : (mapsRowed Tryd.prog) = true := by kernel_rfl
theorem blockWrites_c3 : (Tryd.f17.params.all (Tryd.prog.readableRec ·)) = true := by kernel_rfl
theorem blockWrites_c4 : (namedTie Tryd.prog Rows.blockWritesRow.named Rows.blockWritesSpec.vars) = true := by kernel_rfl
theorem blockWrites_c5 : ((Rows.blockWritesRow.stops == [])) = true := by kernel_rfl
theorem blockWrites_c6 : ((Tryd.prog.stops == [])) = true := by kernel_rfl
theorem blockWrites_c7 : ((Rows.blockWritesRow.knobs == [])) = true := by kernel_rfl
theorem blockWrites_c8 : ((Tryd.prog.stopKnobs == [])) = true := by kernel_rfl
theorem blockWrites_c9 : ((Rows.blockWritesRow.inPlace == Tryd.prog.inPlace 17)) = true := by kernel_rfl
theorem blockWrites_c10 : ((Rows.blockWritesRow.unfollowed == Tryd.prog.unfollowed 17)) = true := by kernel_rfl
theorem blockWrites_c11 : ((Rows.blockWritesRow.recurses == Tryd.prog.recurses 17)) = true := by kernel_rfl
theorem blockWrites_c12 : ((Rows.blockWritesRow.named == Tryd.prog.varsNamed 17)) = true := by kernel_rfl
theorem blockWrites_c13 : ((Rows.blockWritesRow.maps == (Tryd.f17.params.toList ++ Rows.blockWritesSpec.plain.varTypes Tryd.prog).any (Tryd.prog.mapsRec ·))) = true := by kernel_rfl
theorem blockWrites_c14 : ((Rows.blockWritesRow.ifaces == (Tryd.f17.params.toList ++ Rows.blockWritesSpec.plain.varTypes Tryd.prog).any (Tryd.prog.ifacesRec ·))) = true := by kernel_rfl
theorem blockWrites_c15 : ((Rows.blockWritesRow.mapsOut == Tryd.prog.mapsAmong Tryd.f17.resultTypes.toList)) = true := by kernel_rfl
theorem blockWrites_c16 : ((Rows.blockWritesRow.loops == (Tryd.f17.params.toList ++ Rows.blockWritesSpec.plain.varTypes Tryd.prog).any (Tryd.prog.loopsFrom ·))) = true := by kernel_rfl
theorem blockWrites_c17 : ((Rows.blockWritesRow.wideKeys == (Tryd.f17.params.toList ++ Rows.blockWritesSpec.plain.varTypes Tryd.prog ++ Tryd.f17.resultTypes.toList).any (Tryd.prog.wideKeysFrom ·))) = true := by kernel_rfl
theorem blockWrites_c18 : (Rows.blockWritesSpec.vars.all (Tryd.prog.varReadable ·)) = true := by kernel_rfl
theorem blockWrites_c19 : (Tryd.f17.resultTypes.all (fun t => Tryd.prog.readableRec t && decide (t < Tryd.prog.types.size))) = true := by kernel_rfl
theorem blockWrites_c20 : ((Rows.blockWritesRow.ifacesOut == Tryd.f17.resultTypes.toList.any (Tryd.prog.ifacesRec ·))) = true := by kernel_rfl
theorem blockWrites_c21 : ((Rows.blockWritesRow.loopsOut == Tryd.f17.resultTypes.toList.any (Tryd.prog.loopsFrom ·))) = true := by kernel_rfl
theorem blockWrites_c22 : ((Rows.blockWritesRow.plainKeys == Tryd.prog.plainKeys)) = true := by kernel_rfl
theorem blockWrites_c23 : (Rows.blockWritesRow.shortTexts.isNone) = true := by kernel_rfl
theorem blockWrites_c24 : (Tryd.prog.stopsHeard) = true := by kernel_rfl
theorem blockWrites_c25 : (Tryd.prog.mayEnter) = true := by kernel_rfl
theorem blockWrites_c26 : ((Rows.blockWritesRow.lifted == Tryd.prog.liftsFinal)) = true := by kernel_rfl
theorem blockWrites_c27 : ((Tryd.prog.make == some Rows.blockWritesRow.make)) = true := by kernel_rfl
theorem blockWrites_c28 : ((Rows.blockWritesRow.kinds == (if Rows.blockWritesRow.domain.isEmpty then [] else Tryd.f17.params.toList.map fun t => match Tryd.prog.underlying t with | some (.int k) => some k | _ => none))) = true := by kernel_rfl
theorem blockWrites_c29 : ((Rows.blockWritesRow.pinned == Rows.blockWritesRow.pinnedBy)) = true := by kernel_rfl
theorem blockWrites_c30 : ((Rows.blockWritesRow.veiled == (Tryd.f17.params.toList ++ Rows.blockWritesSpec.plain.varTypes Tryd.prog ++ Tryd.f17.resultTypes.toList).any (Tryd.prog.veiledRec ·))) = true := by kernel_rfl
theorem blockWrites_c31 : (Rows.blockWritesRow.veiledFits Tryd.prog Tryd.f17.params.toList (Tryd.f17.params.toList ++ Rows.blockWritesSpec.plain.varTypes Tryd.prog ++ Tryd.f17.resultTypes.toList)) = true := by kernel_rfl
theorem and_tt {a b : Bool} (ha : a = true) (hb : b = true) : (a && b) = true := by rw [ha, hb]; rfl
theorem blockWrites_closed : joinedFacts Tryd.prog 17 Tryd.f17 Rows.blockWritesSpec Rows.blockWritesRow = true := and_tt (and_tt (and_tt (and_tt (and_tt (and_tt (and_tt (and_tt (and_tt (and_tt (and_tt (and_tt (and_tt (and_tt (and_tt (and_tt (and_tt (and_tt (and_tt (and_tt (and_tt (and_tt (and_tt (and_tt (and_tt (and_tt (and_tt (and_tt (and_tt (and_tt (and_tt (blockWrites_c0) laidOut) blockWrites_c2) blockWrites_c3) blockWrites_c4) blockWrites_c5) blockWrites_c6) blockWrites_c7) blockWrites_c8) blockWrites_c9) blockWrites_c10) blockWrites_c11) blockWrites_c12) blockWrites_c13) blockWrites_c14) blockWrites_c15) blockWrites_c16) blockWrites_c17) blockWrites_c18) blockWrites_c19) blockWrites_c20) blockWrites_c21) blockWrites_c22) blockWrites_c23) blockWrites_c24) blockWrites_c25) blockWrites_c26) blockWrites_c27) blockWrites_c28) blockWrites_c29) blockWrites_c30) blockWrites_c31
theorem blockWrites_inst : Tryd.f17.isInstance Tryd.prog Rows.blockWritesRow.origin Rows.blockWritesRow.targs := of_decide_eq_true (by kernel_rfl)
theorem blockWrites_wrap : Tryd.f17.isWrapper Tryd.prog Rows.blockWritesRow.wrapper Rows.blockWritesRow.mainSum := by
  unfold Func.isWrapper; first | (rw [if_pos (by decide +kernel)]; kernel_rfl) | (rw [if_neg (by decide +kernel)]; exact ⟨rfl, rfl⟩)
end Go.Proofs.YtjlkakggmfmfiaaDoor
