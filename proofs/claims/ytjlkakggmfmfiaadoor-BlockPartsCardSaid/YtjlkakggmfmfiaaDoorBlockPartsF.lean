/- The closed facts of the row BlockParts, each by itself: the kernel's memory does not hold them in one. -/
import Derived.Test.YtjlkakggmfmfiaaDoorDoor
import Derived.Test.YtjlkakggmfmfiaaDoorTie
import Derived.Test.YtjlkakggmfmfiaaDoorCards
import Derived.SevenTiedAt
set_option maxRecDepth 100000
namespace Go.Proofs.YtjlkakggmfmfiaaDoor
open Go Go.RowKit Go.ChangeShapes Go.WideShapes Go.ChangeAt
theorem blockParts_c0 : (Rows.blockPartsRow.wf (OpenSpec.ofChange Rows.blockPartsSpec)) = true := by kernel_rfl
theorem blockParts_c2 : (mapsRowed Tryd.prog) = true := by kernel_rfl
theorem blockParts_c3 : (Tryd.f14.params.all (Tryd.prog.readableRec ·)) = true := by kernel_rfl
theorem blockParts_c4 : (namedTie Tryd.prog Rows.blockPartsRow.named Rows.blockPartsSpec.vars) = true := by kernel_rfl
theorem blockParts_c5 : ((Rows.blockPartsRow.stops == [])) = true := by kernel_rfl
theorem blockParts_c6 : ((Tryd.prog.stops == [])) = true := by kernel_rfl
theorem blockParts_c7 : ((Rows.blockPartsRow.knobs == [])) = true := by kernel_rfl
theorem blockParts_c8 : ((Tryd.prog.stopKnobs == [])) = true := by kernel_rfl
theorem blockParts_c9 : ((Rows.blockPartsRow.inPlace == Tryd.prog.inPlace 14)) = true := by kernel_rfl
theorem blockParts_c10 : ((Rows.blockPartsRow.unfollowed == Tryd.prog.unfollowed 14)) = true := by kernel_rfl
theorem blockParts_c11 : ((Rows.blockPartsRow.recurses == Tryd.prog.recurses 14)) = true := by kernel_rfl
theorem blockParts_c12 : ((Rows.blockPartsRow.named == Tryd.prog.varsNamed 14)) = true := by kernel_rfl
theorem blockParts_c13 : ((Rows.blockPartsRow.maps == (Tryd.f14.params.toList ++ Rows.blockPartsSpec.plain.varTypes Tryd.prog).any (Tryd.prog.mapsRec ·))) = true := by kernel_rfl
theorem blockParts_c14 : ((Rows.blockPartsRow.ifaces == (Tryd.f14.params.toList ++ Rows.blockPartsSpec.plain.varTypes Tryd.prog).any (Tryd.prog.ifacesRec ·))) = true := by kernel_rfl
theorem blockParts_c15 : ((Rows.blockPartsRow.mapsOut == Tryd.prog.mapsAmong Tryd.f14.resultTypes.toList)) = true := by kernel_rfl
theorem blockParts_c16 : ((Rows.blockPartsRow.loops == (Tryd.f14.params.toList ++ Rows.blockPartsSpec.plain.varTypes Tryd.prog).any (Tryd.prog.loopsFrom ·))) = true := by kernel_rfl
theorem blockParts_c17 : ((Rows.blockPartsRow.wideKeys == (Tryd.f14.params.toList ++ Rows.blockPartsSpec.plain.varTypes Tryd.prog ++ Tryd.f14.resultTypes.toList).any (Tryd.prog.wideKeysFrom ·))) = true := by kernel_rfl
theorem blockParts_c18 : (Rows.blockPartsSpec.vars.all (Tryd.prog.varReadable ·)) = true := by kernel_rfl
theorem blockParts_c19 : (Tryd.f14.resultTypes.all (fun t => Tryd.prog.readableRec t && decide (t < Tryd.prog.types.size))) = true := by kernel_rfl
theorem blockParts_c20 : ((Rows.blockPartsRow.ifacesOut == Tryd.f14.resultTypes.toList.any (Tryd.prog.ifacesRec ·))) = true := by kernel_rfl
theorem blockParts_c21 : ((Rows.blockPartsRow.loopsOut == Tryd.f14.resultTypes.toList.any (Tryd.prog.loopsFrom ·))) = true := by kernel_rfl
theorem blockParts_c22 : ((Rows.blockPartsRow.plainKeys == Tryd.prog.plainKeys)) = true := by kernel_rfl
theorem blockParts_c23 : (Rows.blockPartsRow.shortTexts.isNone) = true := by kernel_rfl
theorem blockParts_c24 : (Tryd.prog.stopsHeard) = true := by kernel_rfl
theorem blockParts_c25 : (Tryd.prog.mayEnter) = true := by kernel_rfl
theorem blockParts_c26 : ((Rows.blockPartsRow.lifted == Tryd.prog.liftsFinal)) = true := by kernel_rfl
theorem blockParts_c27 : ((Tryd.prog.make == some Rows.blockPartsRow.make)) = true := by kernel_rfl
theorem blockParts_c28 : ((Rows.blockPartsRow.kinds == (if Rows.blockPartsRow.domain.isEmpty then [] else Tryd.f14.params.toList.map fun t => match Tryd.prog.underlying t with | some (.int k) => some k | _ => none))) = true := by kernel_rfl
theorem blockParts_c29 : ((Rows.blockPartsRow.pinned == Rows.blockPartsRow.pinnedBy)) = true := by kernel_rfl
theorem blockParts_c30 : ((Rows.blockPartsRow.veiled == (Tryd.f14.params.toList ++ Rows.blockPartsSpec.plain.varTypes Tryd.prog ++ Tryd.f14.resultTypes.toList).any (Tryd.prog.veiledRec ·))) = true := by kernel_rfl
theorem blockParts_c31 : (Rows.blockPartsRow.veiledFits Tryd.prog Tryd.f14.params.toList (Tryd.f14.params.toList ++ Rows.blockPartsSpec.plain.varTypes Tryd.prog ++ Tryd.f14.resultTypes.toList)) = true := by kernel_rfl
theorem and_tt {a b : Bool} (ha : a = true) (hb : b = true) : (a && b) = true := by rw [ha, hb]; rfl
theorem blockParts_closed : joinedFacts Tryd.prog 14 Tryd.f14 Rows.blockPartsSpec Rows.blockPartsRow = true := and_tt (and_tt (and_tt (and_tt (and_tt (and_tt (and_tt (and_tt (and_tt (and_tt (and_tt (and_tt (and_tt (and_tt (and_tt (and_tt (and_tt (and_tt (and_tt (and_tt (and_tt (and_tt (and_tt (and_tt (and_tt (and_tt (and_tt (and_tt (and_tt (and_tt (and_tt (blockParts_c0) laidOut) blockParts_c2) blockParts_c3) blockParts_c4) blockParts_c5) blockParts_c6) blockParts_c7) blockParts_c8) blockParts_c9) blockParts_c10) blockParts_c11) blockParts_c12) blockParts_c13) blockParts_c14) blockParts_c15) blockParts_c16) blockParts_c17) blockParts_c18) blockParts_c19) blockParts_c20) blockParts_c21) blockParts_c22) blockParts_c23) blockParts_c24) blockParts_c25) blockParts_c26) blockParts_c27) blockParts_c28) blockParts_c29) blockParts_c30) blockParts_c31
theorem blockParts_inst : Tryd.f14.isInstance Tryd.prog Rows.blockPartsRow.origin Rows.blockPartsRow.targs := of_decide_eq_true (by kernel_rfl)
theorem blockParts_wrap : Tryd.f14.isWrapper Tryd.prog Rows.blockPartsRow.wrapper Rows.blockPartsRow.mainSum := by
  unfold Func.isWrapper; first | (rw [if_pos (by decide +kernel)]; kernel_rfl) | (rw [if_neg (by decide +kernel)]; exact ⟨rfl, rfl⟩)
end Go.Proofs.YtjlkakggmfmfiaaDoor
