/- What the listed tables give a walk; a world that meets the condition. | What the listed point gives a walk; a world that meets the condition (tx.nowhere alone). | What the listed tables and the listed point give a walk; a world that meets the condition. -/
import Derived.Test.YtclkgflficlmiaaDoorStep
import Derived.Test.YtclkgflficlmiaaDoorBase
import Derived.Test.YtclkgflficlmiaaDoorRows
import Derived.ProofKit
import Derived.LaidMore
import Derived.OpenShut
import Derived.Stop.Joined
import Derived.MakeChecks
import Derived.Test.YtclkgflficlmiaaDoorTxCo
/-! ## Door -/
section
set_option maxRecDepth 100000
set_option linter.unusedVariables false
namespace Go.Proofs.YtclkgflficlmiaaDoor
open Go Go.RowKit Go.ChangeShapes Go.WideShapes Go.ChangeAt
abbrev laidSha : List (String × DataW Unit) := [("tailrace/sha.first", Rows.laid_tailrace_sha_first), ("tailrace/sha.adds", Rows.laid_tailrace_sha_adds)]
theorem own : ownKnob Tryd.prog.godebug = none := by kernel_rfl
theorem laidOut : laidOutB Tryd.prog = true := by kernel_rfl
theorem gFirst : Tryd.prog.globalNamed "tailrace/sha.first" = some 1 := by kernel_rfl
theorem gAdds : Tryd.prog.globalNamed "tailrace/sha.adds" = some 2 := by kernel_rfl
theorem tFirst : (Tryd.prog.globals[1]?).map (·.type) = some 27 := by kernel_rfl
theorem tAdds : (Tryd.prog.globals[2]?).map (·.type) = some 28 := by kernel_rfl
theorem cu32 : Tryd.prog.cellsOf 26 = 1 := by kernel_rfl
theorem c8 : Tryd.prog.cellsOf 27 = 8 := by kernel_rfl
theorem c64 : Tryd.prog.cellsOf 28 = 64 := by kernel_rfl
theorem door_met (os : Os) (args : Array Value) : laidMetH Tryd.prog laidSha ((World.doorLaid Tryd.prog 4000 os).forCall (fun _ _ => 0) ⟨#[], args, []⟩).memory :=
  laidMetH_of_parts3 (fuel := 8) (laidMet_of_run' 8 (by kernel_rfl) (by kernel_rfl)) (by kernel_rfl) (by kernel_rfl)
theorem firstD {H : Type} : (Rows.laid_tailrace_sha_first : DataW H) = .agg (first8.list.map fun y => .lit (.int .u32 y)) := by rfl
theorem addsD {H : Type} : (Rows.laid_tailrace_sha_adds : DataW H) = .agg (adds.map fun y => .lit (.int .u32 y)) := by rfl
theorem tabs_of_laid {W : World} (h : laidMetH Tryd.prog laidSha W) : Tabs W := by
  rw [MakeChecks.laidMetH_plain _ _ _ (by kernel_rfl)] at h
  obtain ⟨ps, ⟨g0, t0, cs0, f0, p0, q0, hg0, ht0, hv0, hd0, ⟨g1, t1, cs1, f1, p1, q1, hg1, ht1, hv1, hd1, _, _⟩, _⟩, _, _⟩ := h
  obtain rfl := Option.some.inj (gFirst.symm.trans hg0)
  obtain rfl := Option.some.inj (gAdds.symm.trans hg1)
  obtain rfl := Option.some.inj (tFirst.symm.trans ht0)
  obtain rfl := Option.some.inj (tAdds.symm.trans ht1)
  rw [firstD] at hd0
  rw [addsD] at hd1
  have e0 := trod_nums_val Tryd.underlying27 Tryd.underlying26 cu32 c8 rfl hd0
  have e1 := trod_nums_val Tryd.underlying28 Tryd.underlying26 cu32 c64 (by rfl) hd1
  obtain ⟨u0, z0, hb0⟩ := var_block gFirst hv0
  obtain ⟨u1, z1, hb1⟩ := var_block gAdds hv1
  refine ⟨fun i hi => ?_, u0, z0, ?_⟩
  · have hc : cs1 = (nums .u32 adds).toArray := by rw [← e1]
    rw [hc] at hb1
    exact blk_num hb1 i (by show i < 64; exact hi)
  · have hc : cs0 = (nums .u32 first8.list).toArray := by rw [← e0]
    rw [hb0, hc]
    rfl
end Go.Proofs.YtclkgflficlmiaaDoor
end

/-! ## DoorN -/
section
set_option maxRecDepth 100000
set_option linter.unusedVariables false
namespace Go.Proofs.YtclkgflficlmiaaDoor
open Go Go.RowKit Go.ChangeShapes Go.WideShapes Go.ChangeAt
abbrev laidNow : List (String × DataW Unit) := [("tailrace/tx.nowhere", Rows.laid_tailrace_tx_nowhere)]
theorem ownN : ownKnob Tryd.prog.godebug = none := by kernel_rfl
theorem laidOutN : laidOutB Tryd.prog = true := by kernel_rfl
theorem gNow : Tryd.prog.globalNamed "tailrace/tx.nowhere" = some 0 := by kernel_rfl
theorem tNow : (Tryd.prog.globals[0]?).map (·.type) = some 64 := by kernel_rfl
theorem door_metN (os : Os) (args : Array Value) : laidMetH Tryd.prog laidNow ((World.doorLaid Tryd.prog 4000 os).forCall (fun _ _ => 0) ⟨#[], args, []⟩).memory :=
  laidMetH_of_parts3 (fuel := 8) (laidMet_of_run' 8 (by kernel_rfl) (by kernel_rfl)) (by kernel_rfl) (by kernel_rfl)
theorem nowD {H : Type} : (Rows.laid_tailrace_tx_nowhere : DataW H) = .agg [.agg (zeros32.map fun y => .lit (.int .u8 y)), .lit (.int .u32 4294967295)] := by rfl
theorem trod_point {H : Type} {enc : TypeId × Value → H} {w : World} {base : Nat} {spare : Nat → Bool} {held : Bool} {fuel : Nat} {cs : List Value} {p : List MemPlace} {xs : List Int} {o : Int} (hxs : xs.length = 32)
    (h : DataW.trod enc Tryd.prog w base spare held fuel 64 cs = some (.agg [.agg (xs.map fun y => .lit (.int .u8 y)), .lit (.int .u32 o)], p)) : cs = ptL xs o := by
  obtain ⟨ys, n, _, hx, hl, hy, hf⟩ := DataW.trod_struct Tryd.underlying64 h
  simp only [Prod.mk.injEq, DataW.agg.injEq] at hx
  obtain ⟨hx1, _⟩ := hx
  rw [show Tryd.prog.cellsOf 64 = 33 by kernel_rfl] at hl
  match ys, hx1 with
  | [y0, y1], hx1 =>
    simp only [List.map_cons, List.map_nil, List.cons.injEq, and_true] at hx1
    obtain ⟨e0, e1⟩ := hx1
    have f0 : DataW.trod enc Tryd.prog w base spare held n 24 ((cs.drop 0).take (Tryd.prog.cellsOf 24)) = [y0, y1][0]? := hf 0 _ rfl
    have f1 : DataW.trod enc Tryd.prog w base spare held n 26 ((cs.drop 32).take (Tryd.prog.cellsOf 26)) = [y0, y1][1]? := hf 1 _ rfl
    simp only [List.getElem?_cons_zero, List.getElem?_cons_succ] at f0 f1
    obtain ⟨d0, p0⟩ := y0
    obtain ⟨d1, p1⟩ := y1
    subst e0 e1
    rw [show Tryd.prog.cellsOf 24 = 32 by kernel_rfl] at f0
    have g0 := trod_nums_val Tryd.underlying24 Tryd.underlying5 (by kernel_rfl) (by kernel_rfl) hxs f0
    obtain ⟨m, g1, g2, _⟩ := DataW.trod_int Tryd.underlying26 f1
    simp only [Prod.mk.injEq, DataW.lit.injEq, Lit.int.injEq] at g2
    obtain ⟨⟨_, g2⟩, _⟩ := g2
    subst g2
    rw [show Tryd.prog.cellsOf 26 = 1 by kernel_rfl] at g1
    rw [List.drop_zero] at g0
    unfold ptL
    rw [← g0, ← g1, List.take_of_length_le (l := cs.drop 32) (by rw [List.length_drop]; omega), List.take_append_drop]
theorem now_of_laid {W : World} (h : laidMetH Tryd.prog laidNow W) : Now W := by
  rw [MakeChecks.laidMetH_plain _ _ _ (by kernel_rfl)] at h
  obtain ⟨ps, ⟨g0, t0, cs0, f0, p0, q0, hg0, ht0, hv0, hd0, _, _⟩, _, _⟩ := h
  obtain rfl := Option.some.inj (gNow.symm.trans hg0)
  obtain rfl := Option.some.inj (tNow.symm.trans ht0)
  rw [nowD] at hd0
  have e0 := trod_point zeros32_len hd0
  obtain ⟨u0, z0, hb0⟩ := var_block gNow hv0
  have hc : cs0 = (ptL zeros32 4294967295).toArray := by rw [← e0]
  rw [hc] at hb0
  exact range_block hb0
end Go.Proofs.YtclkgflficlmiaaDoor
end

/-! ## DoorB -/
section
set_option maxRecDepth 100000
set_option linter.unusedVariables false
namespace Go.Proofs.YtclkgflficlmiaaDoor
open Go Go.RowKit Go.ChangeShapes Go.WideShapes Go.ChangeAt
abbrev laidBoth : List (String × DataW Unit) := [("tailrace/sha.first", Rows.laid_tailrace_sha_first), ("tailrace/sha.adds", Rows.laid_tailrace_sha_adds), ("tailrace/tx.nowhere", Rows.laid_tailrace_tx_nowhere)]
theorem door_metB (os : Os) (args : Array Value) : laidMetH Tryd.prog laidBoth ((World.doorLaid Tryd.prog 4000 os).forCall (fun _ _ => 0) ⟨#[], args, []⟩).memory :=
  laidMetH_of_parts3 (fuel := 8) (laidMet_of_run' 8 (by kernel_rfl) (by kernel_rfl)) (by kernel_rfl) (by kernel_rfl)
theorem both_of_laid {W : World} (h : laidMetH Tryd.prog laidBoth W) : Tabs W ∧ Now W := by
  rw [MakeChecks.laidMetH_plain _ _ _ (by kernel_rfl)] at h
  obtain ⟨ps, ⟨g0, t0, cs0, f0, p0, q0, hg0, ht0, hv0, hd0, ⟨g1, t1, cs1, f1, p1, q1, hg1, ht1, hv1, hd1, ⟨g2, t2, cs2, f2, p2, q2, hg2, ht2, hv2, hd2, _, _⟩, _⟩, _⟩, _, _⟩ := h
  obtain rfl := Option.some.inj (gFirst.symm.trans hg0)
  obtain rfl := Option.some.inj (gAdds.symm.trans hg1)
  obtain rfl := Option.some.inj (gNow.symm.trans hg2)
  obtain rfl := Option.some.inj (tFirst.symm.trans ht0)
  obtain rfl := Option.some.inj (tAdds.symm.trans ht1)
  obtain rfl := Option.some.inj (tNow.symm.trans ht2)
  rw [firstD] at hd0
  rw [addsD] at hd1
  rw [nowD] at hd2
  have e0 := trod_nums_val Tryd.underlying27 Tryd.underlying26 cu32 c8 rfl hd0
  have e1 := trod_nums_val Tryd.underlying28 Tryd.underlying26 cu32 c64 (by rfl) hd1
  have e2 := trod_point zeros32_len hd2
  obtain ⟨u0, z0, hb0⟩ := var_block gFirst hv0
  obtain ⟨u1, z1, hb1⟩ := var_block gAdds hv1
  obtain ⟨u2, z2, hb2⟩ := var_block gNow hv2
  refine ⟨⟨fun i hi => ?_, u0, z0, ?_⟩, ?_⟩
  · have hc : cs1 = (nums .u32 adds).toArray := by rw [← e1]
    rw [hc] at hb1
    exact blk_num hb1 i (by show i < 64; exact hi)
  · have hc : cs0 = (nums .u32 first8.list).toArray := by rw [← e0]
    rw [hb0, hc]
    rfl
  · have hc : cs2 = (ptL zeros32 4294967295).toArray := by rw [← e2]
    rw [hc] at hb2
    exact range_block hb2
end Go.Proofs.YtclkgflficlmiaaDoor
end
