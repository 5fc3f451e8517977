/- The closed facts of the row CoinPlans, each by itself: the kernel's memory does not hold them in one. -/
import Derived.Test.YtjlkakggmfmfiaaDoorDoorB
import Derived.Test.YtjlkakggmfmfiaaDoorTie
import Derived.Test.YtjlkakggmfmfiaaDoorCards
import Derived.SevenTiedAt
set_option maxRecDepth 100000
namespace Go.Proofs.YtjlkakggmfmfiaaDoor
open Go Go.RowKit Go.ChangeShapes Go.WideShapes Go.ChangeAt
theorem coinPlans_c0 : (Rows.coinPlansRow.wf (OpenSpec.ofChange Rows.coinPlansSpec)) = true := by kernel_rfl
theorem coinPlans_c2 : (mapsRowed Tryd.prog) = true := by kernel_rfl
theorem coinPlans_c3 : (Tryd.f19.params.all (Tryd.prog.readableRec ·)) = true := by kernel_rfl
theorem coinPlans_c4 : (namedTie Tryd.prog Rows.coinPlansRow.named Rows.coinPlansSpec.vars) = true := by kernel_rfl
theorem coinPlans_c5 : ((Rows.coinPlansRow.stops == [])) = true := by kernel_rfl
theorem coinPlans_c6 : ((Tryd.prog.stops == [])) = true := by kernel_rfl
theorem coinPlans_c7 : ((Rows.coinPlansRow.knobs == [])) = true := by kernel_rfl
theorem coinPlans_c8 : ((Tryd.prog.stopKnobs == [])) = true := by kernel_rfl
theorem coinPlans_c9 : ((Rows.coinPlansRow.inPlace == Tryd.prog.inPlace 19)) = true := by kernel_rfl
theorem coinPlans_c10 : ((Rows.coinPlansRow.unfollowed == Tryd.prog.unfollowed 19)) = true := by kernel_rfl
theorem coinPlans_c11 : ((Rows.coinPlansRow.recurses == Tryd.prog.recurses 19)) = true := by kernel_rfl
theorem coinPlans_c12 : ((Rows.coinPlansRow.named == Tryd.prog.varsNamed 19)) = true := by kernel_rfl
theorem coinPlans_c13 : ((Rows.coinPlansRow.maps == (Tryd.f19.params.toList ++ Rows.coinPlansSpec.plain.varTypes Tryd.prog).any (Tryd.prog.mapsRec ·))) = true := by kernel_rfl
theorem coinPlans_c14 : ((Rows.coinPlansRow.ifaces == (Tryd.f19.params.toList ++ Rows.coinPlansSpec.plain.varTypes Tryd.prog).any (Tryd.prog.ifacesRec ·))) = true := by kernel_rfl
theorem coinPlans_c15 : ((Rows.coinPlansRow.mapsOut == Tryd.prog.mapsAmong Tryd.f19.resultTypes.toList)) = true := by kernel_rfl
theorem coinPlans_c16 : ((Rows.coinPlansRow.loops == (Tryd.f19.params.toList ++ Rows.coinPlansSpec.plain.varTypes Tryd.prog).any (Tryd.prog.loopsFrom ·))) = true := by kernel_rfl
theorem coinPlans_c17 : ((Rows.coinPlansRow.wideKeys == (Tryd.f19.params.toList ++ Rows.coinPlansSpec.plain.varTypes Tryd.prog ++ Tryd.f19.resultTypes.toList).any (Tryd.prog.wideKeysFrom ·))) = true := by kernel_rfl
theorem coinPlans_c18 : (Rows.coinPlansSpec.vars.all (Tryd.prog.varReadable ·)) = true := by kernel_rfl
theorem coinPlans_c19 : (Tryd.f19.resultTypes.all (fun t => Tryd.prog.readableRec t && decide (t < Tryd.prog.types.size))) = true := by kernel_rfl
theorem coinPlans_c20 : ((Rows.coinPlansRow.ifacesOut == Tryd.f19.resultTypes.toList.any (Tryd.prog.ifacesRec ·))) = true := by kernel_rfl
theorem coinPlans_c21 : ((Rows.coinPlansRow.loopsOut == Tryd.f19.resultTypes.toList.any (Tryd.prog.loopsFrom ·))) = true := by kernel_rfl
theorem coinPlans_c22 : ((Rows.coinPlansRow.plainKeys == Tryd.prog.plainKeys)) = true := by kernel_rfl
theorem coinPlans_c23 : (Rows.coinPlansRow.shortTexts.isNone) = true := by kernel_rfl
theorem coinPlans_c24 : (Tryd.prog.stopsHeard) = true := by kernel_rfl
theorem coinPlans_c25 : (Tryd.prog.mayEnter) = true := by kernel_rfl
theorem coinPlans_c26 : ((Rows.coinPlansRow.lifted == Tryd.prog.liftsFinal)) = true := by kernel_rfl
theorem coinPlans_c27 : ((Tryd.prog.make == some Rows.coinPlansRow.make)) = true := by kernel_rfl
theorem coinPlans_c28 : ((Rows.coinPlansRow.kinds == (if Rows.coinPlansRow.domain.isEmpty then [] else Tryd.f19.params.toList.map fun t => match Tryd.prog.underlying t with | some (.int k) => some k | _ => none))) = true := by kernel_rfl
theorem coinPlans_c29 : ((Rows.coinPlansRow.pinned == Rows.coinPlansRow.pinnedBy)) = true := by kernel_rfl
theorem coinPlans_c30 : ((Rows.coinPlansRow.veiled == (Tryd.f19.params.toList ++ Rows.coinPlansSpec.plain.varTypes Tryd.prog ++ Tryd.f19.resultTypes.toList).any (Tryd.prog.veiledRec ·))) = true := by kernel_rfl
theorem coinPlans_c31 : (Rows.coinPlansRow.veiledFits Tryd.prog Tryd.f19.params.toList (Tryd.f19.params.toList ++ Rows.coinPlansSpec.plain.varTypes Tryd.prog ++ Tryd.f19.resultTypes.toList)) = true := by kernel_rfl
theorem and_tt {a b : Bool} (ha : a = true) (hb : b = true) : (a && b) = true := by rw [ha, hb]; rfl
theorem coinPlans_closed : joinedFacts Tryd.prog 19 Tryd.f19 Rows.coinPlansSpec Rows.coinPlansRow = true := and_tt (and_tt (and_tt (and_tt (and_tt (and_tt (and_tt (and_tt (and_tt (and_tt (and_tt (and_tt (and_tt (and_tt (and_tt (and_tt (and_tt (and_tt (and_tt (and_tt (and_tt (and_tt (and_tt (and_tt (and_tt (and_tt (and_tt (and_tt (and_tt (and_tt (and_tt (coinPlans_c0) laidOut) coinPlans_c2) coinPlans_c3) coinPlans_c4) coinPlans_c5) coinPlans_c6) coinPlans_c7) coinPlans_c8) coinPlans_c9) coinPlans_c10) coinPlans_c11) coinPlans_c12) coinPlans_c13) coinPlans_c14) coinPlans_c15) coinPlans_c16) coinPlans_c17) coinPlans_c18) coinPlans_c19) coinPlans_c20) coinPlans_c21) coinPlans_c22) coinPlans_c23) coinPlans_c24) coinPlans_c25) coinPlans_c26) coinPlans_c27) coinPlans_c28) coinPlans_c29) coinPlans_c30) coinPlans_c31
theorem coinPlans_inst : Tryd.f19.isInstance Tryd.prog Rows.coinPlansRow.origin Rows.coinPlansRow.targs := of_decide_eq_true (by kernel_rfl)
theorem coinPlans_wrap : Tryd.f19.isWrapper Tryd.prog Rows.coinPlansRow.wrapper Rows.coinPlansRow.mainSum := by
  unfold Func.isWrapper; first | (rw [if_pos (by decide +kernel)]; kernel_rfl) | (rw [if_neg (by decide +kernel)]; exact ⟨rfl, rfl⟩)
end Go.Proofs.YtjlkakggmfmfiaaDoor
