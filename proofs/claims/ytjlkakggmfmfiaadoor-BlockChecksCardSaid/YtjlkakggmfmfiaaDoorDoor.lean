/- What the listed tables give a walk; a world that meets the condition. -/
import Derived.Test.YtjlkakggmfmfiaaDoorStep
import Derived.Test.YtjlkakggmfmfiaaDoorBase
import Derived.Test.YtjlkakggmfmfiaaDoorRows
import Derived.ProofKit
import Derived.LaidMore
import Derived.OpenShut
import Derived.Stop.Joined
import Derived.MakeChecks
set_option maxRecDepth 100000
set_option linter.unusedVariables false
namespace Go.Proofs.YtjlkakggmfmfiaaDoor
open Go Go.RowKit Go.ChangeShapes Go.WideShapes Go.ChangeAt
abbrev laidSha : List (String × DataW Unit) := [("tailrace/sha.first", Rows.laid_tailrace_sha_first), ("tailrace/sha.adds", Rows.laid_tailrace_sha_adds)]
theorem own : ownKnob Tryd.prog.godebug = none := by kernel_rfl
theorem laidOut : laidOutB Tryd.prog = true := by kernel_rfl
theorem gFirst : Tryd.prog.globalNamed "tailrace/sha.first" = some 0 := by kernel_rfl
theorem gAdds : Tryd.prog.globalNamed "tailrace/sha.adds" = some 2 := by kernel_rfl
theorem tFirst : (Tryd.prog.globals[0]?).map (·.type) = some 28 := by kernel_rfl
theorem tAdds : (Tryd.prog.globals[2]?).map (·.type) = some 29 := by kernel_rfl
theorem cu32 : Tryd.prog.cellsOf 27 = 1 := by kernel_rfl
theorem c8 : Tryd.prog.cellsOf 28 = 8 := by kernel_rfl
theorem c64 : Tryd.prog.cellsOf 29 = 64 := by kernel_rfl
theorem door_met (os : Os) (args : Array Value) : laidMetH Tryd.prog laidSha ((World.doorLaid Tryd.prog 4000 os).forCall (fun _ _ => 0) ⟨#[], args, []⟩).memory :=
  laidMetH_of_parts3 (fuel := 8) (laidMet_of_run' 8 (by kernel_rfl) (by kernel_rfl)) (by kernel_rfl) (by kernel_rfl)
theorem firstD {H : Type} : (Rows.laid_tailrace_sha_first : DataW H) = .agg (first8.list.map fun y => .lit (.int .u32 y)) := by rfl
theorem addsD {H : Type} : (Rows.laid_tailrace_sha_adds : DataW H) = .agg (adds.map fun y => .lit (.int .u32 y)) := by rfl
theorem tabs_of_laid {W : World} (h : laidMetH Tryd.prog laidSha W) : Tabs W := by
  rw [MakeChecks.laidMetH_plain _ _ _ (by kernel_rfl)] at h
  obtain ⟨ps, ⟨g0, t0, cs0, f0, p0, q0, hg0, ht0, hv0, hd0, ⟨g1, t1, cs1, f1, p1, q1, hg1, ht1, hv1, hd1, _, _⟩, _⟩, _, _⟩ := h
  obtain rfl := Option.some.inj (gFirst.symm.trans hg0)
  obtain rfl := Option.some.inj (gAdds.symm.trans hg1)
  obtain rfl := Option.some.inj (tFirst.symm.trans ht0)
  obtain rfl := Option.some.inj (tAdds.symm.trans ht1)
  rw [firstD] at hd0
  rw [addsD] at hd1
  have e0 := trod_nums_val Tryd.underlying28 Tryd.underlying27 cu32 c8 rfl hd0
  have e1 := trod_nums_val Tryd.underlying29 Tryd.underlying27 cu32 c64 (by rfl) hd1
  obtain ⟨u0, z0, hb0⟩ := var_block gFirst hv0
  obtain ⟨u1, z1, hb1⟩ := var_block gAdds hv1
  refine ⟨fun i hi => ?_, u0, z0, ?_⟩
  · have hc : cs1 = (nums .u32 adds).toArray := by rw [← e1]
    rw [hc] at hb1
    exact blk_num hb1 i (by show i < 64; exact hi)
  · have hc : cs0 = (nums .u32 first8.list).toArray := by rw [← e0]
    rw [hb0, hc]
    rfl
end Go.Proofs.YtjlkakggmfmfiaaDoor
