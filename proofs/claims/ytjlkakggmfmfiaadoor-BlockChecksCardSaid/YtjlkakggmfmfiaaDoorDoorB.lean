/- What the listed tables and the listed point give a walk; a world that meets the condition. -/
import Derived.Test.YtjlkakggmfmfiaaDoorDoor
import Derived.Test.YtjlkakggmfmfiaaDoorDoorN
set_option maxRecDepth 100000
set_option linter.unusedVariables false
namespace Go.Proofs.YtjlkakggmfmfiaaDoor
open Go Go.RowKit Go.ChangeShapes Go.WideShapes Go.ChangeAt
abbrev laidBoth : List (String × DataW Unit) := [("tailrace/sha.first", Rows.laid_tailrace_sha_first), ("tailrace/sha.adds", Rows.laid_tailrace_sha_adds), ("tailrace/tx.nowhere", Rows.laid_tailrace_tx_nowhere)]
theorem door_metB (os : Os) (args : Array Value) : laidMetH Tryd.prog laidBoth ((World.doorLaid Tryd.prog 4000 os).forCall (fun _ _ => 0) ⟨#[], args, []⟩).memory :=
  laidMetH_of_parts3 (fuel := 8) (laidMet_of_run' 8 (by kernel_rfl) (by kernel_rfl)) (by kernel_rfl) (by kernel_rfl)
theorem both_of_laid {W : World} (h : laidMetH Tryd.prog laidBoth W) : Tabs W ∧ Now W := by
  rw [MakeChecks.laidMetH_plain _ _ _ (by kernel_rfl)] at h
  obtain ⟨ps, ⟨g0, t0, cs0, f0, p0, q0, hg0, ht0, hv0, hd0, ⟨g1, t1, cs1, f1, p1, q1, hg1, ht1, hv1, hd1, ⟨g2, t2, cs2, f2, p2, q2, hg2, ht2, hv2, hd2, _, _⟩, _⟩, _⟩, _, _⟩ := h
  obtain rfl := Option.some.inj (gFirst.symm.trans hg0)
  obtain rfl := Option.some.inj (gAdds.symm.trans hg1)
  obtain rfl := Option.some.inj (gNow.symm.trans hg2)
  obtain rfl := Option.some.inj (tFirst.symm.trans ht0)
  obtain rfl := Option.some.inj (tAdds.symm.trans ht1)
  obtain rfl := Option.some.inj (tNow.symm.trans ht2)
  rw [firstD] at hd0
  rw [addsD] at hd1
  rw [nowD] at hd2
  have e0 := trod_nums_val Tryd.underlying28 Tryd.underlying27 cu32 c8 rfl hd0
  have e1 := trod_nums_val Tryd.underlying29 Tryd.underlying27 cu32 c64 (by rfl) hd1
  have e2 := trod_point zeros32_len hd2
  obtain ⟨u0, z0, hb0⟩ := var_block gFirst hv0
  obtain ⟨u1, z1, hb1⟩ := var_block gAdds hv1
  obtain ⟨u2, z2, hb2⟩ := var_block gNow hv2
  refine ⟨⟨fun i hi => ?_, u0, z0, ?_⟩, ?_⟩
  · have hc : cs1 = (nums .u32 adds).toArray := by rw [← e1]
    rw [hc] at hb1
    exact blk_num hb1 i (by show i < 64; exact hi)
  · have hc : cs0 = (nums .u32 first8.list).toArray := by rw [← e0]
    rw [hb0, hc]
    rfl
  · have hc : cs2 = (ptL zeros32 4294967295).toArray := by rw [← e2]
    rw [hc] at hb2
    exact range_block hb2
end Go.Proofs.YtjlkakggmfmfiaaDoor
