/- sha.Double, sha.Pair and the head of layer 3's statements. -/
import Derived.Test.YtclkgflficlmiaaDoorSum
import Derived.Test.YtclkgflficlmiaaDoorBase
import Derived.Deep.RegionHeld3
import Derived.Lib.SlBytesConst
set_option maxRecDepth 100000
set_option linter.unusedVariables false
namespace Go.Proofs.YtclkgflficlmiaaDoor
open Go Go.RowKit
theorem info_h (xs : List Int) (h : xs.length = 32) : (Tryd.prog.info? 24).map (·.size) = some (nums .u8 xs).toArray.size := by rw [nums_size, h]; exact info_hash
theorem size_h (xs : List Int) (h : xs.length = 32) : (nums .u8 zeros32).toArray.size = (nums .u8 xs).toArray.size := by rw [nums_size, nums_size, h]; rfl
def dblF (bs : List Int) : List Int := sumF (sumF bs)
theorem dblF_length (bs : List Int) : (dblF bs).length = 32 := sumF_length _
theorem dblF_bytes (bs : List Int) : Bytes (dblF bs) := sumF_bytes _
set_option maxHeartbeats 1000000 in
theorem double_calls (A : Option Addr) (n c : Nat) (bs : List Int) (w : World) (hn : n ≤ maxLen) (hnc : n ≤ c) (hbs : Bytes bs) (hr : Rd w A n (nums .u8 bs)) (hT : Tabs w) :
    Calls Tryd.prog 18 #[.slice A n c] w fun e w' => e = .returned (.agg (nums .u8 (dblF bs)).toArray) ∧ Below w.heap.size w w' := by
  have hs := sumF_length bs
  have hd := dblF_length bs
  have hr0 := hr.alloc (.cells (nums .u8 zeros32).toArray 24)
  have hT0 := hT.alloc (.cells (nums .u8 zeros32).toArray 24)
  have hb0 : Below w.heap.size w (w.alloc (.cells (nums .u8 zeros32).toArray 24)) := (Below.refl _ _).alloc (Nat.le_refl _) _
  have h00 := heap_alloc_new w (.cells (nums .u8 zeros32).toArray 24)
  go_enter Tryd.func18, Tryd.ntmps18
  go_wp2_with fail
  refine (sum_calls A n c bs _ hn hnc hbs hr0 hT0).mono ?_
  rintro e w1 ⟨rfl, hb1⟩
  have h01 := heap_below hb1 h00
  have hT1 := hT0.below hb1
  have hb01 := below_then hb0 (by simp) hb1
  have hs1 : w.heap.size < w1.heap.size := heap_lt h01
  clear hb0 h00 hr0 hT0 hb1
  go_upto_region 2 with (first | (refine wpList_store_any rfl 24 (.tmp 3) (.tmp 5) rfl w1.heap.size (nums .u8 (sumF bs)).toArray rfl rfl 24 (nums .u8 zeros32).toArray (heap_alloc_new _ _) (info_h _ hs) (size_h _ hs) (nums_all _ _) ?_; intro w2 h2 ht2))
  have hb12 : Below w1.heap.size w1 w2 := ht2.below ((Below.refl w1.heap.size w1).alloc (Nat.le_refl _) _) (Nat.le_refl _)
  have h02 := heap_below hb12 h01
  have hT2 := hT1.below hb12
  have hb02 := below_then hb01 (by omega) hb12
  have hs2 : w.heap.size < w2.heap.size := heap_lt h02
  have hr2 : Rd w2 (some ⟨w1.heap.size, 0, none⟩) 32 (nums .u8 (sumF bs)) := by
    have := Rd.of_block0 h2
    rwa [nums_length, hs] at this
  clear ht2 hT1 h01 hb01 h2 hb12
  go_wp2_with fail
  refine (sum_calls _ 32 32 (sumF bs) _ (by decide) (Nat.le_refl _) (sumF_bytes bs) hr2 hT2).mono ?_
  rintro e w3 ⟨rfl, hb3⟩
  have h03 := heap_below hb3 h02
  have hb03 := below_then hb02 (by omega) hb3
  clear hb02 hb3 hr2 hT2 h02
  go_wp2_with (first | (refine wpList_store_any rfl 24 (.tmp 2) (.tmp 7) rfl w.heap.size (nums .u8 (sumF (sumF bs))).toArray rfl rfl 24 (nums .u8 zeros32).toArray h03 (info_h _ hd) (size_h _ hd) (nums_all _ _) ?_; intro w4 h4 ht4))
  refine bodyPost_ret (results_cell_row rfl _ _ w.heap.size 24 (nums .u8 (dblF bs)).toArray (0, 0) _ rfl h4 Tryd.underlying24 rfl (info_h _ hd)) rfl ⟨rfl, ht4.below hb03 (Nat.le_refl _)⟩
def pairF (xs ys : List Int) : List Int := dblF (xs ++ ys)
theorem pairF_length (xs ys : List Int) : (pairF xs ys).length = 32 := dblF_length _
theorem pairF_bytes (xs ys : List Int) : Bytes (pairF xs ys) := dblF_bytes _
theorem info8S : (Tryd.prog.info? 5).map (fun i => (i.zero, i.size, i.bytes)) = some (some (.int .u8 0), 1, 1) := by kernel_rfl
set_option maxHeartbeats 1000000 in
theorem pair_calls (xs ys : List Int) (hx : xs.length = 32) (hy : ys.length = 32) (bx : Bytes xs) (bY : Bytes ys) (w : World) (hT : Tabs w) :
    Calls Tryd.prog 19 #[.agg (nums .u8 xs).toArray, .agg (nums .u8 ys).toArray] w fun e w' => e = .returned (.agg (nums .u8 (pairF xs ys)).toArray) ∧ Below w.heap.size w w' := by
  have hd := pairF_length xs ys
  have hxy : (xs ++ ys).length = 64 := by rw [List.length_append, hx, hy]
  have g1 : (((w.alloc (.cells (nums .u8 xs).toArray 24)).alloc (.cells (nums .u8 ys).toArray 24)).alloc (.cells (nums .u8 zeros32).toArray 24)).heap[w.heap.size]? = some (.cells (nums .u8 xs).toArray 24) := blk_alloc (heap_alloc2_old _ _ _) _
  have g2 : (((w.alloc (.cells (nums .u8 xs).toArray 24)).alloc (.cells (nums .u8 ys).toArray 24)).alloc (.cells (nums .u8 zeros32).toArray 24)).heap[w.heap.size + 1]? = some (.cells (nums .u8 ys).toArray 24) := blk_alloc (heap_alloc2_new _ _ _) _
  have g3 : (((w.alloc (.cells (nums .u8 xs).toArray 24)).alloc (.cells (nums .u8 ys).toArray 24)).alloc (.cells (nums .u8 zeros32).toArray 24)).heap[w.heap.size + 1 + 1]? = some (.cells (nums .u8 zeros32).toArray 24) := by
    have := heap_alloc_new ((w.alloc (.cells (nums .u8 xs).toArray 24)).alloc (.cells (nums .u8 ys).toArray 24)) (.cells (nums .u8 zeros32).toArray 24)
    simpa only [World.size_alloc] using this
  have hb0 : Below w.heap.size w (((w.alloc (.cells (nums .u8 xs).toArray 24)).alloc (.cells (nums .u8 ys).toArray 24)).alloc (.cells (nums .u8 zeros32).toArray 24)) := (((Below.refl _ _).alloc (Nat.le_refl _) _).alloc (by simp) _).alloc (by simp; omega) _
  have hT0 := hT.below hb0
  go_enter Tryd.func19, Tryd.ntmps19
  go_upto_region 1 with fail
  refine wp_gen (q := fun wi => wi.heap[w.heap.size]? = some (.cells (nums .u8 xs).toArray 24) ∧ wi.heap[w.heap.size + 1]? = some (.cells (nums .u8 ys).toArray 24) ∧ wi.heap[w.heap.size + 1 + 1]? = some (.cells (nums .u8 zeros32).toArray 24) ∧ Below w.heap.size w wi ∧ Tabs wi) ⟨g1, g2, g3, hb0, hT0⟩ (fun wi hw => ?_)
  clear g1 g2 g3 hb0 hT0 hT
  obtain ⟨g1, g2, g3, hb0, hT⟩ := hw
  have r1 : Rd wi (some ⟨w.heap.size, 0, none⟩) 32 (nums .u8 xs) := by have := Rd.of_block0 g1; rwa [nums_length, hx] at this
  have r2 : Rd wi (some ⟨w.heap.size + 1, 0, none⟩) 32 (nums .u8 ys) := by have := Rd.of_block0 g2; rwa [nums_length, hy] at this
  have hzs := heap_lt g3
  refine wp_region_quiet_tail_lit 2 (by kernel_rfl) (by kernel_rfl) ?_
  simp only [List.take_succ_cons, List.take_zero, List.drop_succ_cons, List.drop_zero]
  repeat (first | go_big_quiet_step (fail) | quiet_step (fail))
  refine wpQuiet_nil ?_
  rintro _ ⟨nq, rfl⟩
  go_wp2_with (first | (refine wpList_appG rfl (.tmp 5) (.tmp 6) 22 rfl 5 _ 1 Tryd.underlying22 info8S rfl (some ⟨w.heap.size, 0, none⟩) 32 32 (nums .u8 xs) rfl r1 (by decide) (some ⟨w.heap.size + 1, 0, none⟩) 32 32 (nums .u8 ys) rfl r2 (by decide) (nums_one _ _) (by decide) 64 (nums .u8 (xs ++ ys)) rfl (nums_append _ _ _).symm (by decide) (by decide) ?_; intro g c2 w2 hown2 hg2 hbel2))
  have hr2 := Rd.of_own hown2
  have hc2 := (own_le hown2).1
  have hT2 := (hT.drewN nq).below hbel2
  have g32 := heap_below hbel2 (show (wi.drewN nq).heap[w.heap.size + 1 + 1]? = _ from g3)
  have hb2 := below_then (below_drewN hb0 nq) (by simp; omega) hbel2
  clear g1 g2 g3 hb0 hT r1 r2 hown2 hbel2
  refine (double_calls _ 64 c2 (xs ++ ys) _ (by decide) hc2 (bx.append bY) hr2 hT2).mono ?_
  rintro e w3 ⟨rfl, hb3⟩
  have g33 := heap_below hb3 g32
  have hb03 := below_then hb2 hb2.size hb3
  clear hb2 hb3 g32 hT2 hr2
  go_wp2_with (first | (refine wpList_store_any rfl 24 (.tmp 4) (.tmp 8) rfl (w.heap.size + 1 + 1) (nums .u8 (dblF (xs ++ ys))).toArray rfl rfl 24 (nums .u8 zeros32).toArray g33 (info_h _ hd) (size_h _ hd) (nums_all _ _) ?_; intro w4 h4 ht4))
  refine bodyPost_ret (results_cell_row rfl _ _ (w.heap.size + 1 + 1) 24 (nums .u8 (pairF xs ys)).toArray (0, 0) _ rfl h4 Tryd.underlying24 rfl (info_h _ hd)) rfl ⟨rfl, ht4.below hb03 (by omega)⟩
def abc : List Int := [97, 98, 99]
theorem abc_bytes : Bytes abc := by intro x hx; revert x hx; decide
theorem abc4 : (sumF abc).take 4 = [186, 120, 22, 191] := by decide +kernel
theorem abc_at (i : Nat) (h : i < 4) : rd (sumF abc) i = rd [186, 120, 22, 191] i := by rw [← abc4, rd_take _ _ _ h]
set_option maxHeartbeats 1000000 in
theorem head03_calls (w : World) (hT : Tabs w) : Calls Tryd.prog 15 #[] w fun e w' => e = .returned (.bool true) ∧ Below w.heap.size w w' := by
  have hs := sumF_length abc
  have h0 := heap_alloc_new w (.cells (nums .u8 abc).toArray 5 (3, 4))
  have hT0 := hT.alloc (.cells (nums .u8 abc).toArray 5 (3, 4))
  have hb0 : Below w.heap.size w (w.alloc (.cells (nums .u8 abc).toArray 5 (3, 4))) := (Below.refl _ _).alloc (Nat.le_refl _) _
  have kc := fun (w : World) (C : Array Value) (n c : Nat) => Lib.run_convert_bytes_const (P := Tryd.prog) w 22 5 C n c Tryd.underlying22 Tryd.underlying5
  go_enter Tryd.func15, Tryd.ntmps15
  go_wp2_with fail
  refine (sum_calls _ 3 3 abc _ (by decide) (Nat.le_refl _) abc_bytes (Rd.of_block0 h0) hT0).mono ?_
  rintro e w1 ⟨rfl, hb1⟩
  have hb01 := below_then hb0 (by simp) hb1
  have hs1 : w.heap.size < w1.heap.size := heap_lt (heap_below hb1 h0)
  clear hb0 h0 hT0 hb1
  go_upto_region 2 with (first | (refine wpList_store_any rfl 24 (.tmp 1) (.tmp 4) rfl w1.heap.size (nums .u8 (sumF abc)).toArray rfl rfl 24 (nums .u8 zeros32).toArray (heap_alloc_new _ _) (info_h _ hs) (size_h _ hs) (nums_all _ _) ?_; intro w2 h2 ht2))
  have hb12 : Below w1.heap.size w1 w2 := ht2.below ((Below.refl w1.heap.size w1).alloc (Nat.le_refl _) _) (Nat.le_refl _)
  have hb02 := below_then hb01 (by omega) hb12
  have c0 := blk_num h2 0 (by rw [hs]; decide)
  have c1 := blk_num h2 1 (by rw [hs]; decide)
  have c2 := blk_num h2 2 (by rw [hs]; decide)
  have c3 := blk_num h2 3 (by rw [hs]; decide)
  rw [abc_at 0 (by decide)] at c0
  rw [abc_at 1 (by decide)] at c1
  rw [abc_at 2 (by decide)] at c2
  rw [abc_at 3 (by decide)] at c3
  simp only [rd, List.getD_cons_zero, List.getD_cons_succ] at c0 c1 c2 c3
  clear h2 ht2 hb12 hb01
  go_wp2
  go_ret
  exact ⟨rfl, hb02⟩
end Go.Proofs.YtclkgflficlmiaaDoor
