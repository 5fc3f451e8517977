/- The closed facts of the row BlockReads, each by itself: the kernel's memory does not hold them in one. -/
import Derived.Test.YtjlkakggmfmfiaaDoorDoor
import Derived.Test.YtjlkakggmfmfiaaDoorTie
import Derived.Test.YtjlkakggmfmfiaaDoorCards
import Derived.SevenTiedAt
set_option maxRecDepth 100000
namespace Go.Proofs.YtjlkakggmfmfiaaDoor
open Go Go.RowKit Go.ChangeShapes Go.WideShapes Go.ChangeAt
theorem blockReads_c0 : (Rows.blockReadsRow.wf (OpenSpec.ofChange Rows.blockReadsSpec)) = true := by kernel_rfl
theorem blockReads_c2 : (mapsRowed Tryd.prog) = true := by kernel_rfl
theorem blockReads_c3 : (Tryd.f18.params.all (Tryd.prog.readableRec ·)) = true := by kernel_rfl
theorem blockReads_c4 : (namedTie Tryd.prog Rows.blockReadsRow.named Rows.blockReadsSpec.vars) = true := by kernel_rfl
theorem blockReads_c5 : ((Rows.blockReadsRow.stops == [])) = true := by kernel_rfl
theorem blockReads_c6 : ((Tryd.prog.stops == [])) = true := by kernel_rfl
theorem blockReads_c7 : ((Rows.blockReadsRow.knobs == [])) = true := by kernel_rfl
theorem blockReads_c8 : ((Tryd.prog.stopKnobs == [])) = true := by kernel_rfl
theorem blockReads_c9 : ((Rows.blockReadsRow.inPlace == Tryd.prog.inPlace 18)) = true := by kernel_rfl
theorem blockReads_c10 : ((Rows.blockReadsRow.unfollowed == Tryd.prog.unfollowed 18)) = true := by kernel_rfl
theorem blockReads_c11 : ((Rows.blockReadsRow.recurses == Tryd.prog.recurses 18)) = true := by kernel_rfl
theorem blockReads_c12 : ((Rows.blockReadsRow.named == Tryd.prog.varsNamed 18)) = true := by kernel_rfl
theorem blockReads_c13 : ((Rows.blockReadsRow.maps == (Tryd.f18.params.toList ++ Rows.blockReadsSpec.plain.varTypes Tryd.prog).any (Tryd.prog.mapsRec ·))) = true := by kernel_rfl
theorem blockReads_c14 : ((Rows.blockReadsRow.ifaces == (Tryd.f18.params.toList ++ Rows.blockReadsSpec.plain.varTypes Tryd.prog).any (Tryd.prog.ifacesRec ·))) = true := by kernel_rfl
theorem blockReads_c15 : ((Rows.blockReadsRow.mapsOut == Tryd.prog.mapsAmong Tryd.f18.resultTypes.toList)) = true := by kernel_rfl
theorem blockReads_c16 : ((Rows.blockReadsRow.loops == (Tryd.f18.params.toList ++ Rows.blockReadsSpec.plain.varTypes Tryd.prog).any (Tryd.prog.loopsFrom ·))) = true := by kernel_rfl
theorem blockReads_c17 : ((Rows.blockReadsRow.wideKeys == (Tryd.f18.params.toList ++ Rows.blockReadsSpec.plain.varTypes Tryd.prog ++ Tryd.f18.resultTypes.toList).any (Tryd.prog.wideKeysFrom ·))) = true := by kernel_rfl
theorem blockReads_c18 : (Rows.blockReadsSpec.vars.all (Tryd.prog.varReadable ·)) = true := by kernel_rfl
theorem blockReads_c19 : (Tryd.f18.resultTypes.all (fun t => Tryd.prog.readableRec t && decide (t < Tryd.prog.types.size))) = true := by kernel_rfl
theorem blockReads_c20 : ((Rows.blockReadsRow.ifacesOut == Tryd.f18.resultTypes.toList.any (Tryd.prog.ifacesRec ·))) = true := by kernel_rfl
theorem blockReads_c21 : ((Rows.blockReadsRow.loopsOut == Tryd.f18.resultTypes.toList.any (Tryd.prog.loopsFrom ·))) = true := by kernel_rfl
theorem blockReads_c22 : ((Rows.blockReadsRow.plainKeys == Tryd.prog.plainKeys)) = true := by kernel_rfl
theorem blockReads_c23 : (Rows.blockReadsRow.shortTexts.isNone) = true := by kernel_rfl
theorem blockReads_c24 : (Tryd.prog.stopsHeard) = true := by kernel_rfl
theorem blockReads_c25 : (Tryd.prog.mayEnter) = true := by kernel_rfl
theorem blockReads_c26 : ((Rows.blockReadsRow.lifted == Tryd.prog.liftsFinal)) = true := by kernel_rfl
theorem blockReads_c27 : ((Tryd.prog.make == some Rows.blockReadsRow.make)) = true := by kernel_rfl
theorem blockReads_c28 : ((Rows.blockReadsRow.kinds == (if Rows.blockReadsRow.domain.isEmpty then [] else Tryd.f18.params.toList.map fun t => match Tryd.prog.underlying t with | some (.int k) => some k | _ => none))) = true := by kernel_rfl
theorem blockReads_c29 : ((Rows.blockReadsRow.pinned == Rows.blockReadsRow.pinnedBy)) = true := by kernel_rfl
theorem blockReads_c30 : ((Rows.blockReadsRow.veiled == (Tryd.f18.params.toList ++ Rows.blockReadsSpec.plain.varTypes Tryd.prog ++ Tryd.f18.resultTypes.toList).any (Tryd.prog.veiledRec ·))) = true := by kernel_rfl
theorem blockReads_c31 : (Rows.blockReadsRow.veiledFits Tryd.prog Tryd.f18.params.toList (Tryd.f18.params.toList ++ Rows.blockReadsSpec.plain.varTypes Tryd.prog ++ Tryd.f18.resultTypes.toList)) = true := by kernel_rfl
theorem and_tt {a b : Bool} (ha : a = true) (hb : b = true) : (a && b) = true := by rw [ha, hb]; rfl
theorem blockReads_closed : joinedFacts Tryd.prog 18 Tryd.f18 Rows.blockReadsSpec Rows.blockReadsRow = true := and_tt (and_tt (and_tt (and_tt (and_tt (and_tt (and_tt (and_tt (and_tt (and_tt (and_tt (and_tt (and_tt (and_tt (and_tt (and_tt (and_tt (and_tt (and_tt (and_tt (and_tt (and_tt (and_tt (and_tt (and_tt (and_tt (and_tt (and_tt (and_tt (and_tt (and_tt (blockReads_c0) laidOut) blockReads_c2) blockReads_c3) blockReads_c4) blockReads_c5) blockReads_c6) blockReads_c7) blockReads_c8) blockReads_c9) blockReads_c10) blockReads_c11) blockReads_c12) blockReads_c13) blockReads_c14) blockReads_c15) blockReads_c16) blockReads_c17) blockReads_c18) blockReads_c19) blockReads_c20) blockReads_c21) blockReads_c22) blockReads_c23) blockReads_c24) blockReads_c25) blockReads_c26) blockReads_c27) blockReads_c28) blockReads_c29) blockReads_c30) blockReads_c31
theorem blockReads_inst : Tryd.f18.isInstance Tryd.prog Rows.blockReadsRow.origin Rows.blockReadsRow.targs := of_decide_eq_true (by kernel_rfl)
theorem blockReads_wrap : Tryd.f18.isWrapper Tryd.prog Rows.blockReadsRow.wrapper Rows.blockReadsRow.mainSum := by
  unfold Func.isWrapper; first | (rw [if_pos (by decide +kernel)]; kernel_rfl) | (rw [if_neg (by decide +kernel)]; exact ⟨rfl, rfl⟩)
end Go.Proofs.YtjlkakggmfmfiaaDoor
