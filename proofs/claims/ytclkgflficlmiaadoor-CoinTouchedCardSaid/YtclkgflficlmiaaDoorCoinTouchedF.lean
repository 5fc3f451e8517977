/- The closed facts of the row CoinTouched, each by itself: the kernel's memory does not hold them in one. -/
import Derived.Test.YtclkgflficlmiaaDoorDoorB
import Derived.Test.YtclkgflficlmiaaDoorTie
import Derived.Test.YtclkgflficlmiaaDoorCards
import Derived.SevenTiedAt
set_option maxRecDepth 100000
namespace Go.Proofs.YtclkgflficlmiaaDoor
open Go Go.RowKit Go.ChangeShapes Go.WideShapes Go.ChangeAt
theorem coinTouched_c0 : (Rows.coinTouchedRow.wf (OpenSpec.ofChange Rows.coinTouchedSpec)) = true := by kernel_rfl
theorem coinTouched_c2 : (mapsRowed Tryd.prog) = true := by kernel_rfl
theorem coinTouched_c3 : (Tryd.f14.params.all (Tryd.prog.readableRec ·)) = true := by kernel_rfl
theorem coinTouched_c4 : (namedTie Tryd.prog Rows.coinTouchedRow.named Rows.coinTouchedSpec.vars) = true := by kernel_rfl
theorem coinTouched_c5 : ((Rows.coinTouchedRow.stops == [])) = true := by kernel_rfl
theorem coinTouched_c6 : ((Tryd.prog.stops == [])) = true := by kernel_rfl
theorem coinTouched_c7 : ((Rows.coinTouchedRow.knobs == [])) = true := by kernel_rfl
theorem coinTouched_c8 : ((Tryd.prog.stopKnobs == [])) = true := by kernel_rfl
theorem coinTouched_c9 : ((Rows.coinTouchedRow.inPlace == Tryd.prog.inPlace 14)) = true := by kernel_rfl
theorem coinTouched_c10 : ((Rows.coinTouchedRow.unfollowed == Tryd.prog.unfollowed 14)) = true := by kernel_rfl
theorem coinTouched_c11 : ((Rows.coinTouchedRow.recurses == Tryd.prog.recurses 14)) = true := by kernel_rfl
theorem coinTouched_c12 : ((Rows.coinTouchedRow.named == Tryd.prog.varsNamed 14)) = true := by kernel_rfl
theorem coinTouched_c13 : ((Rows.coinTouchedRow.maps == (Tryd.f14.params.toList ++ Rows.coinTouchedSpec.plain.varTypes Tryd.prog).any (Tryd.prog.mapsRec ·))) = true := by kernel_rfl
theorem coinTouched_c14 : ((Rows.coinTouchedRow.ifaces == (Tryd.f14.params.toList ++ Rows.coinTouchedSpec.plain.varTypes Tryd.prog).any (Tryd.prog.ifacesRec ·))) = true := by kernel_rfl
theorem coinTouched_c15 : ((Rows.coinTouchedRow.mapsOut == Tryd.prog.mapsAmong Tryd.f14.resultTypes.toList)) = true := by kernel_rfl
theorem coinTouched_c16 : ((Rows.coinTouchedRow.loops == (Tryd.f14.params.toList ++ Rows.coinTouchedSpec.plain.varTypes Tryd.prog).any (Tryd.prog.loopsFrom ·))) = true := by kernel_rfl
theorem coinTouched_c17 : ((Rows.coinTouchedRow.wideKeys == (Tryd.f14.params.toList ++ Rows.coinTouchedSpec.plain.varTypes Tryd.prog ++ Tryd.f14.resultTypes.toList).any (Tryd.prog.wideKeysFrom ·))) = true := by kernel_rfl
theorem coinTouched_c18 : (Rows.coinTouchedSpec.vars.all (Tryd.prog.varReadable ·)) = true := by kernel_rfl
theorem coinTouched_c19 : (Tryd.f14.resultTypes.all (fun t => Tryd.prog.readableRec t && decide (t < Tryd.prog.types.size))) = true := by kernel_rfl
theorem coinTouched_c20 : ((Rows.coinTouchedRow.ifacesOut == Tryd.f14.resultTypes.toList.any (Tryd.prog.ifacesRec ·))) = true := by kernel_rfl
theorem coinTouched_c21 : ((Rows.coinTouchedRow.loopsOut == Tryd.f14.resultTypes.toList.any (Tryd.prog.loopsFrom ·))) = true := by kernel_rfl
theorem coinTouched_c22 : ((Rows.coinTouchedRow.plainKeys == Tryd.prog.plainKeys)) = true := by kernel_rfl
theorem coinTouched_c23 : (Rows.coinTouchedRow.shortTexts.isNone) = true := by kernel_rfl
theorem coinTouched_c24 : (Tryd.prog.stopsHeard) = true := by kernel_rfl
theorem coinTouched_c25 : (Tryd.prog.mayEnter) = true := by kernel_rfl
theorem coinTouched_c26 : ((Rows.coinTouchedRow.lifted == Tryd.prog.liftsFinal)) = true := by kernel_rfl
theorem coinTouched_c27 : ((Tryd.prog.make == some Rows.coinTouchedRow.make)) = true := by kernel_rfl
theorem coinTouched_c28 : ((Rows.coinTouchedRow.kinds == (if Rows.coinTouchedRow.domain.isEmpty then [] else Tryd.f14.params.toList.map fun t => match Tryd.prog.underlying t with | some (.int k) => some k | _ => none))) = true := by kernel_rfl
theorem coinTouched_c29 : ((Rows.coinTouchedRow.pinned == Rows.coinTouchedRow.pinnedBy)) = true := by kernel_rfl
theorem coinTouched_c30 : ((Rows.coinTouchedRow.veiled == (Tryd.f14.params.toList ++ Rows.coinTouchedSpec.plain.varTypes Tryd.prog ++ Tryd.f14.resultTypes.toList).any (Tryd.prog.veiledRec ·))) = true := by kernel_rfl
theorem coinTouched_c31 : (Rows.coinTouchedRow.veiledFits Tryd.prog Tryd.f14.params.toList (Tryd.f14.params.toList ++ Rows.coinTouchedSpec.plain.varTypes Tryd.prog ++ Tryd.f14.resultTypes.toList)) = true := by kernel_rfl
theorem and_tt {a b : Bool} (ha : a = true) (hb : b = true) : (a && b) = true := by rw [ha, hb]; rfl
theorem coinTouched_closed : joinedFacts Tryd.prog 14 Tryd.f14 Rows.coinTouchedSpec Rows.coinTouchedRow = true := and_tt (and_tt (and_tt (and_tt (and_tt (and_tt (and_tt (and_tt (and_tt (and_tt (and_tt (and_tt (and_tt (and_tt (and_tt (and_tt (and_tt (and_tt (and_tt (and_tt (and_tt (and_tt (and_tt (and_tt (and_tt (and_tt (and_tt (and_tt (and_tt (and_tt (and_tt (coinTouched_c0) laidOut) coinTouched_c2) coinTouched_c3) coinTouched_c4) coinTouched_c5) coinTouched_c6) coinTouched_c7) coinTouched_c8) coinTouched_c9) coinTouched_c10) coinTouched_c11) coinTouched_c12) coinTouched_c13) coinTouched_c14) coinTouched_c15) coinTouched_c16) coinTouched_c17) coinTouched_c18) coinTouched_c19) coinTouched_c20) coinTouched_c21) coinTouched_c22) coinTouched_c23) coinTouched_c24) coinTouched_c25) coinTouched_c26) coinTouched_c27) coinTouched_c28) coinTouched_c29) coinTouched_c30) coinTouched_c31
theorem coinTouched_inst : Tryd.f14.isInstance Tryd.prog Rows.coinTouchedRow.origin Rows.coinTouchedRow.targs := of_decide_eq_true (by kernel_rfl)
theorem coinTouched_wrap : Tryd.f14.isWrapper Tryd.prog Rows.coinTouchedRow.wrapper Rows.coinTouchedRow.mainSum := by
  unfold Func.isWrapper; first | (rw [if_pos (by decide +kernel)]; kernel_rfl) | (rw [if_neg (by decide +kernel)]; exact ⟨rfl, rfl⟩)
end Go.Proofs.YtclkgflficlmiaaDoor
