/- block.Climb: the root to which a digest comes. -/
import Derived.Test.YtjlkakggmfmfiaaDoorHead08
import Derived.Test.YtjlkakggmfmfiaaDoorMask
set_option maxRecDepth 100000
set_option linter.unusedVariables false
namespace Go.Proofs.YtjlkakggmfmfiaaDoor
open Go Go.RowKit
theorem climb_step (id : List Int) (at_ : Int) (br : List (List Int)) (k : Nat) (h : k < br.length) : climbF id at_ (br.drop k) = climbF (if at_ % 2 = 1 then pairF (dg br k) id else pairF id (dg br k)) (at_ / 2) (br.drop (k + 1)) := by
  rw [List.drop_eq_getElem_cons h, climbF]
  have : br[k] = dg br k := by simp [dg, List.getD_eq_getElem?_getD, List.getElem?_eq_getElem h]
  rw [this]
theorem climb_done (id : List Int) (at_ : Int) (br : List (List Int)) (k : Nat) (h : br.length ≤ k) : climbF id at_ (br.drop k) = id := by
  rw [List.drop_eq_nil_of_le h, climbF]
set_option maxHeartbeats 2000000 in
theorem climb_calls (w : World) (hT : Tabs w) (id : List Int) (hid : Dig id) (at_ : Int) (ha0 : -9223372036854775808 ≤ at_) (ha1 : at_ ≤ 9223372036854775807) (A : Option Addr) (n c : Nat) (br : List (List Int)) (hnc : n ≤ c) (hn : n ≤ 1000000) (hC : HC w A n br) :
    Calls Tryd.prog 31 #[.agg (nums .u8 id).toArray, .int .i64 at_, .slice A n c] w fun e w' => e = .returned (.agg (nums .u8 (climbF id at_ br)).toArray) ∧ Below w.heap.size w w' := by
  have hl := hC.len
  have hd := HC.digs hC
  have u2 := Tryd.underlying25
  have g1 : ((w.alloc (.cells (nums .u8 id).toArray 25)).alloc (.cells (nums .u8 zeros32).toArray 25)).heap[w.heap.size]? = some (.cells (nums .u8 id).toArray 25) := heap_alloc2_old _ _ _
  have g2 : ((w.alloc (.cells (nums .u8 id).toArray 25)).alloc (.cells (nums .u8 zeros32).toArray 25)).heap[w.heap.size + 1]? = some (.cells (nums .u8 zeros32).toArray 25) := heap_alloc2_new _ _ _
  have hb0 : Below w.heap.size w ((w.alloc (.cells (nums .u8 id).toArray 25)).alloc (.cells (nums .u8 zeros32).toArray 25)) := ((Below.refl _ _).alloc (Nat.le_refl _) _).alloc (by simp) _
  have HL := Lib.hid hl
  clear hl
  go_enter Tryd.func31, Tryd.ntmps31
  go_wp2
  go_loopw [1, 11] (fun v1 v11 wr => ∃ (k : Nat) (a : Int) (cur : List Int), k ≤ n ∧ v11 = .int .i64 k ∧ v1 = .int .i64 a ∧ -9223372036854775808 ≤ a ∧ a ≤ 9223372036854775807 ∧ Dig cur ∧ Hid (climbF cur a (br.drop k) = climbF id at_ br) ∧ Below w.heap.size w wr ∧ wr.heap[w.heap.size]? = some (.cells (nums .u8 cur).toArray 25) ∧ wr.heap[w.heap.size + 1]? = some (.cells (nums .u8 zeros32).toArray 25)) (fun _ v _ => n - (intOf v).toNat)
  case atStart => exact ⟨0, at_, id, by omega, rfl, rfl, ha0, ha1, hid, rfl, hb0, g1, g2⟩
  case round =>
    clear g1 g2 hb0
    obtain ⟨k, a, cur, hk, rfl, rfl, ha0', ha1', hcur, HR, hB, g1, g2⟩ := hrel
    have hTr := hT.below hB
    by_cases hlt : k < n
    · have hlt' : (k : Int) < (n : Int) := by omega
      have hk0 : (0 : Int) ≤ (k : Int) := by omega
      have hx := dg_dig hd k (by rw [HL.out]; exact hlt)
      obtain ⟨b, o, rfl, hbw, hr⟩ := HC.addr hC (by omega)
      have rx := range_below hB (hr k hlt)
      have i1 := ilen_hash (dg br k) hx.1
      have hst := climb_step cur a br k (by rw [HL.out]; exact hlt)
      have HS := Lib.hid hst
      have HRR := Lib.hid hr
      have hmask := i64_mask1 a
      clear hr hst
      by_cases ho : a % 2 = 1
      · have ho' : (a % 2 == 1) = true := by rw [ho]; rfl
        rw [if_pos ho] at HS
        clear ho
        have hl1 := hcur.1
        have hPl := pairF_length (dg br k) cur
        go_upto_region 4 with (first | (refine wpList_load_mid rfl 25 (.tmp 13) rfl b (o + k * 32) rfl (nums .u8 (dg br k)) _ rx u2 rfl i1 ?_) | (refine wpList_store_any rfl 25 (.tmp 8) (.tmp 14) rfl wr.heap.size (nums .u8 (dg br k)).toArray rfl rfl 25 (nums .u8 zeros32).toArray (heap_alloc_new _ _) (info_h _ hx.1) (size_h _ hx.1) (nums_all _ _) ?_; intro w2 h8 ht8))
        have hb2 : Below wr.heap.size wr w2 := ht8.below ((Below.refl wr.heap.size wr).alloc (Nat.le_refl _) _) (Nat.le_refl _)
        have hT2 := hTr.below hb2
        have g12 := heap_below hb2 g1
        have g22 := heap_below hb2 g2
        have hB2 := below_then hB hB.size hb2
        clear ht8 hb2 rx g1 g2 hTr hB HRR
        go_wp2_with (first | (refine wpList_load_row rfl 25 (.tmp 8) rfl wr.heap.size rfl 25 _ _ _ h8 u2 rfl (info_h _ hx.1) ?_) | (refine wpList_load_row rfl 25 (.tmp 3) rfl w.heap.size rfl 25 _ _ _ g12 u2 rfl (info_h _ hl1) ?_))
        refine (pair_calls (dg br k) cur hx.1 hcur.1 hx.2 hcur.2 _ hT2).mono ?_
        rintro e w3 ⟨rfl, hb3⟩
        have g13 := heap_below hb3 g12
        have g23 := heap_below hb3 g22
        have hB3 := below_then hB2 hB2.size hb3
        clear hb3 g12 g22 hT2 hB2 h8
        have hsz : (nums .u8 cur).toArray.size = (nums .u8 (pairF (dg br k) cur)).toArray.size := by rw [nums_size, nums_size, hl1, hPl]
        have hlt0 := heap_lt g13
        go_wp2_with (first | (refine wpList_store_any rfl 25 (.tmp 3) (.tmp 20) rfl w.heap.size (nums .u8 (pairF (dg br k) cur)).toArray rfl rfl 25 (nums .u8 cur).toArray g13 (info_h _ hPl) hsz (nums_all _ _) ?_; intro w4 h4 ht4))
        have hB4 : Below w.heap.size w w4 := ht4.below hB3 (Nat.le_refl _)
        have g24 := ht4.keep g23 (by omega)
        go_roundw
        case rel => exact ⟨k + 1, a / 2, _, by omega, by go_num, rfl, by omega, by omega, dig_pair _ _, Lib.hid (by rw [← HS.out, HR.out]), hB4, h4, g24⟩
        case measure => simp [intOf]; omega
      · have ho' : (a % 2 == 1) = false := by rw [beq_eq_false_iff_ne]; exact ho
        rw [if_neg ho] at HS
        clear ho
        have hl1 := hcur.1
        have hPl := pairF_length cur (dg br k)
        go_upto_region 4 with (first | (refine wpList_load_mid rfl 25 (.tmp 13) rfl b (o + k * 32) rfl (nums .u8 (dg br k)) _ rx u2 rfl i1 ?_) | (refine wpList_store_any rfl 25 (.tmp 8) (.tmp 14) rfl wr.heap.size (nums .u8 (dg br k)).toArray rfl rfl 25 (nums .u8 zeros32).toArray (heap_alloc_new _ _) (info_h _ hx.1) (size_h _ hx.1) (nums_all _ _) ?_; intro w2 h8 ht8))
        have hb2 : Below wr.heap.size wr w2 := ht8.below ((Below.refl wr.heap.size wr).alloc (Nat.le_refl _) _) (Nat.le_refl _)
        have hT2 := hTr.below hb2
        have g12 := heap_below hb2 g1
        have g22 := heap_below hb2 g2
        have hB2 := below_then hB hB.size hb2
        clear ht8 hb2 rx g1 g2 hTr hB HRR
        go_wp2_with (first | (refine wpList_load_row rfl 25 (.tmp 8) rfl wr.heap.size rfl 25 _ _ _ h8 u2 rfl (info_h _ hx.1) ?_) | (refine wpList_load_row rfl 25 (.tmp 3) rfl w.heap.size rfl 25 _ _ _ g12 u2 rfl (info_h _ hl1) ?_))
        refine (pair_calls cur (dg br k) hcur.1 hx.1 hcur.2 hx.2 _ hT2).mono ?_
        rintro e w3 ⟨rfl, hb3⟩
        have g13 := heap_below hb3 g12
        have g23 := heap_below hb3 g22
        have hB3 := below_then hB2 hB2.size hb3
        clear hb3 g12 g22 hT2 hB2 h8
        have hsz : (nums .u8 cur).toArray.size = (nums .u8 (pairF cur (dg br k))).toArray.size := by rw [nums_size, nums_size, hl1, hPl]
        have hlt0 := heap_lt g13
        go_wp2_with (first | (refine wpList_store_any rfl 25 (.tmp 3) (.tmp 23) rfl w.heap.size (nums .u8 (pairF cur (dg br k))).toArray rfl rfl 25 (nums .u8 cur).toArray g13 (info_h _ hPl) hsz (nums_all _ _) ?_; intro w4 h4 ht4))
        have hB4 : Below w.heap.size w w4 := ht4.below hB3 (Nat.le_refl _)
        have g24 := ht4.keep g23 (by omega)
        go_roundw
        case rel => exact ⟨k + 1, a / 2, _, by omega, by go_num, rfl, by omega, by omega, dig_pair _ _, Lib.hid (by rw [← HS.out, HR.out]), hB4, h4, g24⟩
        case measure => simp [intOf]; omega
    · have hlt' : ¬ (k : Int) < (n : Int) := by omega
      have hdn := climb_done cur a br k (by rw [HL.out]; omega)
      have hfin : cur = climbF id at_ br := by rw [← HR.out, hdn]
      have HF := Lib.hid hfin
      have hl1 := hcur.1
      clear HR hdn hfin
      go_wp2_with (first | (refine wpList_load_row rfl 25 (.tmp 3) rfl w.heap.size rfl 25 _ _ _ g1 u2 rfl (info_h _ hl1) ?_) | (refine wpList_store_any rfl 25 (.tmp 6) (.tmp 27) rfl (w.heap.size + 1) (nums .u8 cur).toArray rfl rfl 25 (nums .u8 zeros32).toArray g2 (info_h _ hl1) (size_h _ hl1) (nums_all _ _) ?_; intro w4 h4 ht4))
      refine bodyPost_ret (results_cell_row rfl _ _ (w.heap.size + 1) 25 (nums .u8 cur).toArray (0, 0) _ rfl h4 Tryd.underlying25 rfl (info_h _ hl1)) rfl ⟨by rw [← HF.out], ht4.below hB (by omega)⟩
end Go.Proofs.YtjlkakggmfmfiaaDoor
