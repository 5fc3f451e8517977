/- tx.Tx: Id. -/
import Derived.Test.YtclkgflficlmiaaDoorEnc
import Derived.Test.YtclkgflficlmiaaDoorSha2
set_option maxRecDepth 100000
set_option linter.unusedVariables false
namespace Go.Proofs.YtclkgflficlmiaaDoor
open Go Go.RowKit
set_option maxHeartbeats 1000000 in
theorem txid_calls (w : World) (hT : Tabs w) (S : Nat → Prop) (t : TTx) (cs : List Value) (hK : txK.K S w t cs) (hlen : (layF t false).length ≤ 9000000000) (hby : Bytes (layF t false)) :
    Calls Tryd.prog 30 #[.agg cs.toArray] w fun e w' => e = .returned (.agg (nums .u8 (dblF (layF t false))).toArray) ∧ Below w.heap.size w w' := by
  have hd := dblF_length (layF t false)
  have hiA := txK_sizeA hK
  have g0 : ((w.alloc (.cells cs.toArray 54)).alloc (.cells (nums .u8 zeros32).toArray 24)).heap[w.heap.size]? = some (.cells cs.toArray 54) := heap_alloc2_old _ _ _
  have g1 : ((w.alloc (.cells cs.toArray 54)).alloc (.cells (nums .u8 zeros32).toArray 24)).heap[w.heap.size + 1]? = some (.cells (nums .u8 zeros32).toArray 24) := heap_alloc2_new _ _ _
  have hb0 : Below w.heap.size w ((w.alloc (.cells cs.toArray 54)).alloc (.cells (nums .u8 zeros32).toArray 24)) := ((Below.refl _ _).alloc (Nat.le_refl _) _).alloc (by simp) _
  have hT0 := hT.below hb0
  have hK0 := RK.K_below hK hb0
  go_enter Tryd.func30, Tryd.ntmps30
  go_wp2_with (first | (refine wpList_load_row rfl 54 (.tmp 1) rfl w.heap.size rfl 54 _ _ _ g0 Tryd.underlying54 rfl hiA ?_))
  refine (lay_calls _ S t cs hK0 false hlen).mono ?_
  rintro e w1 ⟨A1, N1, c1, rfl, ho1, hb1⟩
  have hT1 := hT0.below hb1
  have g11 := heap_below hb1 g1
  have b01 := below_then hb0 hb0.size hb1
  have hm1 := Rd.of_own ho1
  have hc1 := own_le ho1
  clear g0 g1 hb0 hT0 ho1 hb1 hK0
  go_wp2_with fail
  refine (double_calls A1 N1 c1 (layF t false) _ (Nat.le_trans hc1.1 hc1.2) hc1.1 hby hm1 hT1).mono ?_
  rintro e w2 ⟨rfl, hb2⟩
  have g12 := heap_below hb2 g11
  have b02 := below_then b01 b01.size hb2
  clear hm1 hT1 g11 b01 hb2
  go_wp2_with (first | (refine wpList_store_any rfl 24 (.tmp 2) (.tmp 5) rfl (w.heap.size + 1) (nums .u8 (dblF (layF t false))).toArray rfl rfl 24 (nums .u8 zeros32).toArray g12 (info_h _ hd) (size_h _ hd) (nums_all _ _) ?_; intro w3 h3 ht3))
  refine bodyPost_ret (results_cell_row rfl _ _ (w.heap.size + 1) 24 (nums .u8 (dblF (layF t false))).toArray (0, 0) _ rfl h3 Tryd.underlying24 rfl (info_h _ hd)) rfl ⟨rfl, ht3.below b02 (by omega)⟩
end Go.Proofs.YtclkgflficlmiaaDoor
