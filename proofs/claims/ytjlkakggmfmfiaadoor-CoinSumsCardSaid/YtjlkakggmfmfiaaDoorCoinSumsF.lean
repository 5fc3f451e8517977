/- The closed facts of the row CoinSums, each by itself: the kernel's memory does not hold them in one. -/
import Derived.Test.YtjlkakggmfmfiaaDoorDoorB
import Derived.Test.YtjlkakggmfmfiaaDoorTie
import Derived.Test.YtjlkakggmfmfiaaDoorCards
import Derived.SevenTiedAt
set_option maxRecDepth 100000
namespace Go.Proofs.YtjlkakggmfmfiaaDoor
open Go Go.RowKit Go.ChangeShapes Go.WideShapes Go.ChangeAt
theorem coinSums_c0 : (Rows.coinSumsRow.wf (OpenSpec.ofChange Rows.coinSumsSpec)) = true := by kernel_rfl
theorem coinSums_c2 : (mapsRowed Tryd.prog) = true := by kernel_rfl
theorem coinSums_c3 : (Tryd.f20.params.all (Tryd.prog.readableRec ·)) = true := by kernel_rfl
theorem coinSums_c4 : (namedTie Tryd.prog Rows.coinSumsRow.named Rows.coinSumsSpec.vars) = true := by kernel_rfl
theorem coinSums_c5 : ((Rows.coinSumsRow.stops == [])) = true := by kernel_rfl
theorem coinSums_c6 : ((Tryd.prog.stops == [])) = true := by kernel_rfl
theorem coinSums_c7 : ((Rows.coinSumsRow.knobs == [])) = true := by kernel_rfl
theorem coinSums_c8 : ((Tryd.prog.stopKnobs == [])) = true := by kernel_rfl
theorem coinSums_c9 : ((Rows.coinSumsRow.inPlace == Tryd.prog.inPlace 20)) = true := by kernel_rfl
theorem coinSums_c10 : ((Rows.coinSumsRow.unfollowed == Tryd.prog.unfollowed 20)) = true := by kernel_rfl
theorem coinSums_c11 : ((Rows.coinSumsRow.recurses == Tryd.prog.recurses 20)) = true := by kernel_rfl
theorem coinSums_c12 : ((Rows.coinSumsRow.named == Tryd.prog.varsNamed 20)) = true := by kernel_rfl
theorem coinSums_c13 : ((Rows.coinSumsRow.maps == (Tryd.f20.params.toList ++ Rows.coinSumsSpec.plain.varTypes Tryd.prog).any (Tryd.prog.mapsRec ·))) = true := by kernel_rfl
theorem coinSums_c14 : ((Rows.coinSumsRow.ifaces == (Tryd.f20.params.toList ++ Rows.coinSumsSpec.plain.varTypes Tryd.prog).any (Tryd.prog.ifacesRec ·))) = true := by kernel_rfl
theorem coinSums_c15 : ((Rows.coinSumsRow.mapsOut == Tryd.prog.mapsAmong Tryd.f20.resultTypes.toList)) = true := by kernel_rfl
theorem coinSums_c16 : ((Rows.coinSumsRow.loops == (Tryd.f20.params.toList ++ Rows.coinSumsSpec.plain.varTypes Tryd.prog).any (Tryd.prog.loopsFrom ·))) = true := by kernel_rfl
theorem coinSums_c17 : ((Rows.coinSumsRow.wideKeys == (Tryd.f20.params.toList ++ Rows.coinSumsSpec.plain.varTypes Tryd.prog ++ Tryd.f20.resultTypes.toList).any (Tryd.prog.wideKeysFrom ·))) = true := by kernel_rfl
theorem coinSums_c18 : (Rows.coinSumsSpec.vars.all (Tryd.prog.varReadable ·)) = true := by kernel_rfl
theorem coinSums_c19 : (Tryd.f20.resultTypes.all (fun t => Tryd.prog.readableRec t && decide (t < Tryd.prog.types.size))) = true := by kernel_rfl
theorem coinSums_c20 : ((Rows.coinSumsRow.ifacesOut == Tryd.f20.resultTypes.toList.any (Tryd.prog.ifacesRec ·))) = true := by kernel_rfl
theorem coinSums_c21 : ((Rows.coinSumsRow.loopsOut == Tryd.f20.resultTypes.toList.any (Tryd.prog.loopsFrom ·))) = true := by kernel_rfl
theorem coinSums_c22 : ((Rows.coinSumsRow.plainKeys == Tryd.prog.plainKeys)) = true := by kernel_rfl
theorem coinSums_c23 : (Rows.coinSumsRow.shortTexts.isNone) = true := by kernel_rfl
theorem coinSums_c24 : (Tryd.prog.stopsHeard) = true := by kernel_rfl
theorem coinSums_c25 : (Tryd.prog.mayEnter) = true := by kernel_rfl
theorem coinSums_c26 : ((Rows.coinSumsRow.lifted == Tryd.prog.liftsFinal)) = true := by kernel_rfl
theorem coinSums_c27 : ((Tryd.prog.make == some Rows.coinSumsRow.make)) = true := by kernel_rfl
theorem coinSums_c28 : ((Rows.coinSumsRow.kinds == (if Rows.coinSumsRow.domain.isEmpty then [] else Tryd.f20.params.toList.map fun t => match Tryd.prog.underlying t with | some (.int k) => some k | _ => none))) = true := by kernel_rfl
theorem coinSums_c29 : ((Rows.coinSumsRow.pinned == Rows.coinSumsRow.pinnedBy)) = true := by kernel_rfl
theorem coinSums_c30 : ((Rows.coinSumsRow.veiled == (Tryd.f20.params.toList ++ Rows.coinSumsSpec.plain.varTypes Tryd.prog ++ Tryd.f20.resultTypes.toList).any (Tryd.prog.veiledRec ·))) = true := by kernel_rfl
theorem coinSums_c31 : (Rows.coinSumsRow.veiledFits Tryd.prog Tryd.f20.params.toList (Tryd.f20.params.toList ++ Rows.coinSumsSpec.plain.varTypes Tryd.prog ++ Tryd.f20.resultTypes.toList)) = true := by kernel_rfl
theorem and_tt {a b : Bool} (ha : a = true) (hb : b = true) : (a && b) = true := by rw [ha, hb]; rfl
theorem coinSums_closed : joinedFacts Tryd.prog 20 Tryd.f20 Rows.coinSumsSpec Rows.coinSumsRow = true := and_tt (and_tt (and_tt (and_tt (and_tt (and_tt (and_tt (and_tt (and_tt (and_tt (and_tt (and_tt (and_tt (and_tt (and_tt (and_tt (and_tt (and_tt (and_tt (and_tt (and_tt (and_tt (and_tt (and_tt (and_tt (and_tt (and_tt (and_tt (and_tt (and_tt (and_tt (coinSums_c0) laidOut) coinSums_c2) coinSums_c3) coinSums_c4) coinSums_c5) coinSums_c6) coinSums_c7) coinSums_c8) coinSums_c9) coinSums_c10) coinSums_c11) coinSums_c12) coinSums_c13) coinSums_c14) coinSums_c15) coinSums_c16) coinSums_c17) coinSums_c18) coinSums_c19) coinSums_c20) coinSums_c21) coinSums_c22) coinSums_c23) coinSums_c24) coinSums_c25) coinSums_c26) coinSums_c27) coinSums_c28) coinSums_c29) coinSums_c30) coinSums_c31
theorem coinSums_inst : Tryd.f20.isInstance Tryd.prog Rows.coinSumsRow.origin Rows.coinSumsRow.targs := of_decide_eq_true (by kernel_rfl)
theorem coinSums_wrap : Tryd.f20.isWrapper Tryd.prog Rows.coinSumsRow.wrapper Rows.coinSumsRow.mainSum := by
  unfold Func.isWrapper; first | (rw [if_pos (by decide +kernel)]; kernel_rfl) | (rw [if_neg (by decide +kernel)]; exact ⟨rfl, rfl⟩)
end Go.Proofs.YtjlkakggmfmfiaaDoor
