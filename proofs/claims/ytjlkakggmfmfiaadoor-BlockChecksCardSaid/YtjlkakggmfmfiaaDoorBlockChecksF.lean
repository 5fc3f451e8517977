/- The closed facts of the row BlockChecks, each by itself: the kernel's memory does not hold them in one. -/
import Derived.Test.YtjlkakggmfmfiaaDoorDoorB
import Derived.Test.YtjlkakggmfmfiaaDoorTie
import Derived.Test.YtjlkakggmfmfiaaDoorCards
import Derived.SevenTiedAt
set_option maxRecDepth 100000
namespace Go.Proofs.YtjlkakggmfmfiaaDoor
open Go Go.RowKit Go.ChangeShapes Go.WideShapes Go.ChangeAt
theorem blockChecks_c0 : (Rows.blockChecksRow.wf (OpenSpec.ofChange Rows.blockChecksSpec)) = true := by kernel_rfl
theorem blockChecks_c2 : (mapsRowed Tryd.prog) = true := by kernel_rfl
theorem blockChecks_c3 : (Tryd.f10.params.all (Tryd.prog.readableRec ·)) = true := by kernel_rfl
theorem blockChecks_c4 : (namedTie Tryd.prog Rows.blockChecksRow.named Rows.blockChecksSpec.vars) = true := by kernel_rfl
theorem blockChecks_c5 : ((Rows.blockChecksRow.stops == [])) = true := by kernel_rfl
theorem blockChecks_c6 : ((Tryd.prog.stops == [])) = true := by kernel_rfl
theorem blockChecks_c7 : ((Rows.blockChecksRow.knobs == [])) = true := by kernel_rfl
theorem blockChecks_c8 : ((Tryd.prog.stopKnobs == [])) = true := by kernel_rfl
theorem blockChecks_c9 : ((Rows.blockChecksRow.inPlace == Tryd.prog.inPlace 10)) = true := by kernel_rfl
theorem blockChecks_c10 : ((Rows.blockChecksRow.unfollowed == Tryd.prog.unfollowed 10)) = true := by kernel_rfl
theorem blockChecks_c11 : ((Rows.blockChecksRow.recurses == Tryd.prog.recurses 10)) = true := by kernel_rfl
theorem blockChecks_c12 : ((Rows.blockChecksRow.named == Tryd.prog.varsNamed 10)) = true := by kernel_rfl
theorem blockChecks_c13 : ((Rows.blockChecksRow.maps == (Tryd.f10.params.toList ++ Rows.blockChecksSpec.plain.varTypes Tryd.prog).any (Tryd.prog.mapsRec ·))) = true := by kernel_rfl
theorem blockChecks_c14 : ((Rows.blockChecksRow.ifaces == (Tryd.f10.params.toList ++ Rows.blockChecksSpec.plain.varTypes Tryd.prog).any (Tryd.prog.ifacesRec ·))) = true := by kernel_rfl
theorem blockChecks_c15 : ((Rows.blockChecksRow.mapsOut == Tryd.prog.mapsAmong Tryd.f10.resultTypes.toList)) = true := by kernel_rfl
theorem blockChecks_c16 : ((Rows.blockChecksRow.loops == (Tryd.f10.params.toList ++ Rows.blockChecksSpec.plain.varTypes Tryd.prog).any (Tryd.prog.loopsFrom ·))) = true := by kernel_rfl
theorem blockChecks_c17 : ((Rows.blockChecksRow.wideKeys == (Tryd.f10.params.toList ++ Rows.blockChecksSpec.plain.varTypes Tryd.prog ++ Tryd.f10.resultTypes.toList).any (Tryd.prog.wideKeysFrom ·))) = true := by kernel_rfl
theorem blockChecks_c18 : (Rows.blockChecksSpec.vars.all (Tryd.prog.varReadable ·)) = true := by kernel_rfl
theorem blockChecks_c19 : (Tryd.f10.resultTypes.all (fun t => Tryd.prog.readableRec t && decide (t < Tryd.prog.types.size))) = true := by kernel_rfl
theorem blockChecks_c20 : ((Rows.blockChecksRow.ifacesOut == Tryd.f10.resultTypes.toList.any (Tryd.prog.ifacesRec ·))) = true := by kernel_rfl
theorem blockChecks_c21 : ((Rows.blockChecksRow.loopsOut == Tryd.f10.resultTypes.toList.any (Tryd.prog.loopsFrom ·))) = true := by kernel_rfl
theorem blockChecks_c22 : ((Rows.blockChecksRow.plainKeys == Tryd.prog.plainKeys)) = true := by kernel_rfl
theorem blockChecks_c23 : (Rows.blockChecksRow.shortTexts.isNone) = true := by kernel_rfl
theorem blockChecks_c24 : (Tryd.prog.stopsHeard) = true := by kernel_rfl
theorem blockChecks_c25 : (Tryd.prog.mayEnter) = true := by kernel_rfl
theorem blockChecks_c26 : ((Rows.blockChecksRow.lifted == Tryd.prog.liftsFinal)) = true := by kernel_rfl
theorem blockChecks_c27 : ((Tryd.prog.make == some Rows.blockChecksRow.make)) = true := by kernel_rfl
theorem blockChecks_c28 : ((Rows.blockChecksRow.kinds == (if Rows.blockChecksRow.domain.isEmpty then [] else Tryd.f10.params.toList.map fun t => match Tryd.prog.underlying t with | some (.int k) => some k | _ => none))) = true := by kernel_rfl
theorem blockChecks_c29 : ((Rows.blockChecksRow.pinned == Rows.blockChecksRow.pinnedBy)) = true := by kernel_rfl
theorem blockChecks_c30 : ((Rows.blockChecksRow.veiled == (Tryd.f10.params.toList ++ Rows.blockChecksSpec.plain.varTypes Tryd.prog ++ Tryd.f10.resultTypes.toList).any (Tryd.prog.veiledRec ·))) = true := by kernel_rfl
theorem blockChecks_c31 : (Rows.blockChecksRow.veiledFits Tryd.prog Tryd.f10.params.toList (Tryd.f10.params.toList ++ Rows.blockChecksSpec.plain.varTypes Tryd.prog ++ Tryd.f10.resultTypes.toList)) = true := by kernel_rfl
theorem and_tt {a b : Bool} (ha : a = true) (hb : b = true) : (a && b) = true := by rw [ha, hb]; rfl
theorem blockChecks_closed : joinedFacts Tryd.prog 10 Tryd.f10 Rows.blockChecksSpec Rows.blockChecksRow = true := and_tt (and_tt (and_tt (and_tt (and_tt (and_tt (and_tt (and_tt (and_tt (and_tt (and_tt (and_tt (and_tt (and_tt (and_tt (and_tt (and_tt (and_tt (and_tt (and_tt (and_tt (and_tt (and_tt (and_tt (and_tt (and_tt (and_tt (and_tt (and_tt (and_tt (and_tt (blockChecks_c0) laidOut) blockChecks_c2) blockChecks_c3) blockChecks_c4) blockChecks_c5) blockChecks_c6) blockChecks_c7) blockChecks_c8) blockChecks_c9) blockChecks_c10) blockChecks_c11) blockChecks_c12) blockChecks_c13) blockChecks_c14) blockChecks_c15) blockChecks_c16) blockChecks_c17) blockChecks_c18) blockChecks_c19) blockChecks_c20) blockChecks_c21) blockChecks_c22) blockChecks_c23) blockChecks_c24) blockChecks_c25) blockChecks_c26) blockChecks_c27) blockChecks_c28) blockChecks_c29) blockChecks_c30) blockChecks_c31
theorem blockChecks_inst : Tryd.f10.isInstance Tryd.prog Rows.blockChecksRow.origin Rows.blockChecksRow.targs := of_decide_eq_true (by kernel_rfl)
theorem blockChecks_wrap : Tryd.f10.isWrapper Tryd.prog Rows.blockChecksRow.wrapper Rows.blockChecksRow.mainSum := by
  unfold Func.isWrapper; first | (rw [if_pos (by decide +kernel)]; kernel_rfl) | (rw [if_neg (by decide +kernel)]; exact ⟨rfl, rfl⟩)
end Go.Proofs.YtjlkakggmfmfiaaDoor
