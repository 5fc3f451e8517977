/- tailracelaw08.same: blocks of one content are the same. -/
import Derived.Test.YtjlkakggmfmfiaaDoorBlockReadsW
set_option maxRecDepth 100000
set_option linter.unusedVariables false
namespace Go.Proofs.YtjlkakggmfmfiaaDoor
open Go Go.RowKit
set_option maxHeartbeats 8000000 in
theorem same08_calls (w : World) (S1 S2 : Nat → Prop) (x : TBlk) (cs1 cs2 : List Value) (hK1 : blkK.K S1 w x cs1) (hK2 : blkK.K S2 w x cs2) (hf : ∀ t ∈ x.txs, encErr t = 0) :
    Calls Tryd.prog 56 #[.agg cs1.toArray, .agg cs2.toArray] w fun e w' => e = .returned (.bool true) ∧ Below w.heap.size w w' := by
  obtain ⟨A, n, c, rfl, hok, hnc, hcm, hC⟩ := hK1
  obtain ⟨B, m, d, rfl, _, hmd, hdm, hD⟩ := hK2
  have hln := hC.len
  obtain rfl : n = m := by have := hD.len; omega
  have hUB := Tryd.underlying64
  have hUH := Tryd.underlying53
  have hU := Tryd.underlying69
  have hiH : (Tryd.prog.info? 53).map (·.size) = some x.head.cells.length := by rw [Hd.length hok]; kernel_rfl
  unfold maxLen at hcm hdm
  have hnI : (n : Int) ≤ 9223372036854775807 := by omega
  have HF := Lib.hid hf
  have HLN := Lib.hid hln
  have kN : ∀ W, (binOp .neq 53 (.agg x.head.cells.toArray) (.agg x.head.cells.toArray)).run Tryd.prog W = .ok (.bool false) W := fun W => by rw [run_neq_struct, eq_hd x.head hok]; rfl
  have ga : ((w.alloc (.cells (blkCells x.head A n c).toArray 64)).alloc (.cells (blkCells x.head B n d).toArray 64)).heap[w.heap.size]? = some (.cells (blkCells x.head A n c).toArray 64) := heap_alloc2_old _ _ _
  have gb : ((w.alloc (.cells (blkCells x.head A n c).toArray 64)).alloc (.cells (blkCells x.head B n d).toArray 64)).heap[w.heap.size + 1]? = some (.cells (blkCells x.head B n d).toArray 64) := heap_alloc2_new _ _ _
  have hb0 : Below w.heap.size w ((w.alloc (.cells (blkCells x.head A n c).toArray 64)).alloc (.cells (blkCells x.head B n d).toArray 64)) := ((Below.refl _ _).alloc (Nat.le_refl _) _).alloc (by simp) _
  clear hf hln
  go_enter Tryd.func56, Tryd.ntmps56
  go_upto_region 1 with fail
  refine wp_gen (q := fun wi => Below w.heap.size w wi ∧ wi.heap[w.heap.size]? = some (.cells (blkCells x.head A n c).toArray 64) ∧ wi.heap[w.heap.size + 1]? = some (.cells (blkCells x.head B n d).toArray 64)) ⟨hb0, ga, gb⟩ (fun w0 hw => ?_)
  clear hb0 ga gb
  obtain ⟨hb0, ga, gb⟩ := hw
  have tA : w0.cell? ⟨w.heap.size, 68, none⟩ = some (.slice A n c) := blk_cell ga (by rw [List.getElem?_toArray]; exact blkCells_at hok A n c)
  have rA : w0.rangeAt w.heap.size 0 x.head.cells := range_pre (range_block (xs := blkCells x.head A n c) ga)
  have tB : w0.cell? ⟨w.heap.size + 1, 68, none⟩ = some (.slice B n d) := blk_cell gb (by rw [List.getElem?_toArray]; exact blkCells_at hok B n d)
  have rB : w0.rangeAt (w.heap.size + 1) 0 x.head.cells := range_pre (range_block (xs := blkCells x.head B n d) gb)
  have hC0 := RK.C.below hC hb0
  have hD0 := RK.C.below hD hb0
  clear hC hD ga gb
  go_wp2_with (first
    | ((with_reducible refine wpList_at 11 ?_); refine wpList_load_mid rfl 53 (.tmp 10) rfl w.heap.size 0 rfl x.head.cells _ rA hUH rfl hiH ?_)
    | ((with_reducible refine wpList_at 13 ?_); refine wpList_load_mid rfl 53 (.tmp 12) rfl (w.heap.size + 1) 0 rfl x.head.cells _ rB hUH rfl hiH ?_)
    | ((with_reducible refine wpList_at 14 ?_); refine wpList_binG rfl .neq 53 (.tmp 11) (.tmp 13) 53 rfl x.head.cells.toArray x.head.cells.toArray (.bool false) rfl rfl (by kernel_rfl) kN ?_))
  go_loopw [27] (fun v27 wr => ∃ (j : Nat), j ≤ n ∧ v27 = .int .i64 j ∧ Below w0.heap.size w0 wr) (fun v _ => n - (intOf v).toNat)
  case atStart => exact ⟨0, by omega, rfl, Below.refl _ _⟩
  case round =>
    obtain ⟨j, hj, rfl, hB⟩ := hrel
    have hbw := below_then hb0 hb0.size hB
    by_cases hlt : j < n
    · have hlt' : (j : Int) < (n : Int) := by omega
      have hjj : (0 : Int) ≤ (j : Int) := by omega
      have tAr := cell_below hB tA
      have tBr := cell_below hB tB
      obtain ⟨b1, o1, cs1, t, hA1, hx1, hKx, hcx⟩ := (RK.C.below hC0 hB).get j hlt
      obtain ⟨b2, o2, cs2, t', hA2, hx2, hKy, hcy⟩ := (RK.C.below hD0 hB).get j hlt
      obtain rfl : t = t' := Option.some.inj (hx1.symm.trans hx2)
      subst hA1
      subst hA2
      have hE := HF.out t (List.mem_of_getElem? hx1)
      obtain ⟨X1, xc1, X2, xc2, rfl, x1, x2, x3, x4, _, _⟩ := txK_form hKx
      obtain ⟨Y1, yc1, Y2, yc2, rfl, y1, y2, y3, y4, _, _⟩ := txK_form hKy
      have hrx : wr.rangeAt b1 (o1 + j * 4) [.int .i32 t.ver, .slice X1 t.ins.length xc1, .slice X2 t.outs.length xc2, .int .u32 t.lock] := hcx
      have hry : wr.rangeAt b2 (o2 + j * 4) [.int .i32 t.ver, .slice Y1 t.ins.length yc1, .slice Y2 t.outs.length yc2, .int .u32 t.lock] := hcy
      have ix := info_tx4 (.int .i32 t.ver) (.slice X1 t.ins.length xc1) (.slice X2 t.outs.length xc2) (.int .u32 t.lock)
      have iy := info_tx4 (.int .i32 t.ver) (.slice Y1 t.ins.length yc1) (.slice Y2 t.outs.length yc2) (.int .u32 t.lock)
      clear hx1 hx2 hcx hcy
      go_wp2_with (first
        | ((with_reducible refine wpList_at 35 ?_); refine wpList_load_mid rfl 69 (.tmp 34) rfl b1 (o1 + j * 4) rfl [.int .i32 t.ver, .slice X1 t.ins.length xc1, .slice X2 t.outs.length xc2, .int .u32 t.lock] _ hrx hU rfl ix ?_))
      refine (enc_calls wr _ t _ hKx).mono ?_
      rintro e w1 ⟨_, he0, hb1⟩
      obtain ⟨A1, N1, k1, rfl, hO1⟩ := he0 hE
      have hR1 := Rd.of_own hO1
      have tB1 := cell_below hb1 tBr
      have hry1 := range_below hb1 hry
      have hKy1 := RK.K_below hKy hb1
      have hbw1 := below_then hbw hbw.size hb1
      have hB1 := below_then hB hB.size hb1
      clear he0 tAr tBr hrx hry hKx hKy hb1 hO1 hB hbw
      go_wp2_with (first
        | ((with_reducible refine wpList_at 44 ?_); refine wpList_load_mid rfl 69 (.tmp 43) rfl b2 (o2 + j * 4) rfl [.int .i32 t.ver, .slice Y1 t.ins.length yc1, .slice Y2 t.outs.length yc2, .int .u32 t.lock] _ hry1 hU rfl iy ?_))
      refine (enc_calls w1 _ t _ hKy1).mono ?_
      rintro e w2 ⟨_, he0, hb2⟩
      obtain ⟨A2, N2, k2, rfl, hO2⟩ := he0 hE
      have hR2 := Rd.of_own hO2
      have hR12 := hR1.below hb2
      have hbw2 := below_then hbw1 hbw1.size hb2
      have hB2 := below_then hB1 hB1.size hb2
      have q1 := conv_rd (P := Tryd.prog) (src := 22) (dst := 9) (c := k1) Tryd.underlying22 Tryd.underlying5 Tryd.underlying9 hR12
      have q2 := conv_rd (P := Tryd.prog) (src := 22) (dst := 9) (c := k2) Tryd.underlying22 Tryd.underlying5 Tryd.underlying9 hR2
      clear he0 tB1 hry1 hKy1 hb2 hO2 hB1 hbw1 hR1 hR2 hR12
      go_wp2
      go_roundw
      case rel => exact ⟨j + 1, by omega, by go_num, hB2⟩
      case measure => simp [intOf]; omega
    · have hlt' : ¬ (j : Int) < (n : Int) := by omega
      go_wp2
      go_ret
      exact ⟨rfl, hbw⟩
end Go.Proofs.YtjlkakggmfmfiaaDoor
