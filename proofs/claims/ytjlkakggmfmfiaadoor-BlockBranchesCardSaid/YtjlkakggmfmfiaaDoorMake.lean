/- tailraceref03.Make: the tables. -/
import Derived.Test.YtjlkakggmfmfiaaDoorMakePure
set_option maxRecDepth 100000
namespace Go.Proofs.YtjlkakggmfmfiaaDoor
open Go Go.RowKit
def zeros72 : List Int := List.replicate 72 0
theorem info_tab : (Tryd.prog.info? 31).map (·.size) = some 72 := by kernel_rfl
theorem info_tabL (L : List Int) (h : L.length = 72) : (Tryd.prog.info? 31).map (·.size) = some (nums .u32 L).toArray.size := by rw [nums_size, h]; exact info_tab
set_option maxHeartbeats 1000000 in
theorem make_calls (w : World) :
    Calls Tryd.prog 23 #[] w fun e w' => e = .returned (.agg (nums .u32 tabs72).toArray) ∧ Below w.heap.size w w' := by
  go_enter Tryd.func23, Tryd.ntmps23
  go_wp2_with (first | (refine wpList_store_row rfl 31 (.tmp 1) (.tmp 6) rfl (w.heap.size + 1) (nums .u32 zeros72).toArray rfl rfl 31 _ (heap_alloc2_new _ _ _) (info_tabL zeros72 rfl) rfl (nums_all _ _) ?_))
  have hI : Below w.heap.size w (((w.alloc (.cells (nums .u32 zeros72).toArray 31)).alloc (.cells (nums .u32 zeros72).toArray 31)).setRow (w.heap.size + 1) (nums .u32 zeros72).toArray) :=
    below_setRow' (((Below.refl _ _).alloc (Nat.le_refl _) _).alloc (by simp) _) (by omega) _
  have hB0 : (((w.alloc (.cells (nums .u32 zeros72).toArray 31)).alloc (.cells (nums .u32 zeros72).toArray 31)).setRow (w.heap.size + 1) (nums .u32 zeros72).toArray).heap[w.heap.size]? = some (.cells (nums .u32 zeros72).toArray 31) :=
    (setRow_other _ _ _ _ (by omega)).trans (heap_alloc2_old _ _ _)
  have hB1 : (((w.alloc (.cells (nums .u32 zeros72).toArray 31)).alloc (.cells (nums .u32 zeros72).toArray 31)).setRow (w.heap.size + 1) (nums .u32 zeros72).toArray).heap[w.heap.size + 1]? = some (.cells (nums .u32 zeros72).toArray 31) :=
    setRow_heap _ _ _ _ _ _ (heap_alloc2_new _ _ _)
  refine wp_gen (q := fun wr => Below w.heap.size w wr ∧ wr.heap[w.heap.size]? = some (.cells (nums .u32 zeros72).toArray 31) ∧ wr.heap[w.heap.size + 1]? = some (.cells (nums .u32 zeros72).toArray 31)) ⟨hI, hB0, hB1⟩ (fun w1 h1 => ?_)
  clear hI hB0 hB1
  obtain ⟨hb, h0, h1⟩ := h1
  go_loopw [2, 3] (fun v2 v3 wr => ∃ (x n : Nat) (L : List Int), 2 ≤ x ∧ x ≤ 312 ∧ Hid (n = cnt x) ∧ v3 = .int .i64 x ∧ v2 = .int .i64 n ∧ Hid (TabL n L) ∧ Below w.heap.size w wr ∧ wr.heap[w.heap.size]? = some (.cells (nums .u32 zeros72).toArray 31) ∧ wr.heap[w.heap.size + 1]? = some (.cells (nums .u32 L).toArray 31)) (fun _ v _ => (312 - intOf v).toNat)
  case atStart => exact ⟨2, 0, zeros72, by omega, by omega, Lib.hid cnt_two.symm, rfl, rfl, Lib.hid TabL.zero, hb, h0, h1⟩
  case round =>
    clear hb h0 h1
    obtain ⟨x, n, L, hx2, hx, hn, rfl, rfl, hL, hb, h0, h1⟩ := hrel
    have hbs := hb.size
    by_cases hn64 : n < 64
    · have hx312 : x < 312 := cnt_lt x (by rw [← hn.out]; exact hn64)
      go_upto_region 7 with fail
      go_wp2
      go_loopw [4, 5] (fun v4 v5 wq => ∃ (d : Nat) (b : Bool), 2 ≤ d ∧ d ≤ x ∧ v5 = .int .i64 d ∧ v4 = .bool b ∧ Hid (b = prB x d) ∧ wq = wr) (fun _ v _ => (x - intOf v).toNat)
      case atStart => exact ⟨2, true, by omega, hx2, rfl, rfl, Lib.hid (prB_two x).symm, rfl⟩
      case round =>
        obtain ⟨d, b, hd2, hdx, rfl, rfl, hbp, rfl⟩ := hrel
        by_cases hdl : d < x
        · have hdl' : (d : Int) < (x : Int) := by omega
          have hd0 : (d : Int) ≠ 0 := by omega
          go_upto_region 10 with fail
          by_cases hdiv : x % d = 0
          · have hm : ((x : Int) % (d : Int) == 0) = true := by rw [beq_iff_eq, ← Int.natCast_emod, hdiv]; rfl
            have hb2 := Lib.hid (show false = prB x (d + 1) by rw [prB_succ x d hd2, hdiv]; simp)
            clear hdiv hbp
            go_wp2
            go_roundw
            case rel => exact ⟨d + 1, false, by omega, by omega, by go_num, rfl, hb2, trivial⟩
            case measure => simp [intOf]; omega
          · have hm : ((x : Int) % (d : Int) == 0) = false := by
              rw [beq_eq_false_iff_ne, ← Int.natCast_emod]
              intro h
              exact hdiv (by omega)
            have hb2 := Lib.hid (show b = prB x (d + 1) by rw [prB_succ x d hd2, ← hbp.out]; simp [hdiv])
            clear hdiv hbp
            go_wp2
            go_roundw
            case rel => exact ⟨d + 1, b, by omega, by omega, by go_num, rfl, hb2, trivial⟩
            case measure => simp [intOf]; omega
        · obtain rfl : d = x := by omega
          have hnum := at_num d hx312 hx2
          cases b with
          | false =>
            have hp : isP d = false := hbp.out.symm
            have hn2 := Lib.hid (show n = cnt (d + 1) by rw [hnum.1, hp, ← hn.out]; rfl)
            clear hnum hp hbp
            go_wp2
            go_roundw
            case rel => exact ⟨d + 1, n, L, by omega, by omega, hn2, by go_num, rfl, hL, hb, h0, h1⟩
            case measure => simp [intOf]; omega
          | true =>
            have hp : isP d = true := hbp.out.symm
            have hn2 := Lib.hid (show n + 1 = cnt (d + 1) by rw [hnum.1, hp, ← hn.out]; rfl)
            have HP := Lib.hid hp
            clear hnum hp hbp
            go_upto_region 13 with fail
            go_wp2_with fail
            refine (root_calls d 3 wr (.inr rfl) (by omega) (by omega)).mono ?_
            rintro e w2 ⟨lo, rfl, hlo, hb2⟩
            have hlo3 := root3_at d lo hx312 hx2 HP.out hlo
            rw [← hn.out] at hlo3
            rw [hlo3]
            have hbel2 := below_then hb hb.size hb2
            have h02 := heap_below hb2 h0
            have h12 := heap_below hb2 h1
            clear hlo hlo3 h0 h1
            have hLlen := hL.out.1
            have hc := blk_num h12 (8 + n) (by omega)
            have hf := blk_frozen h12 (8 + n)
            by_cases hn8 : n < 8
            · have hn8' : (n : Int) < 8 := by omega
              have hbel3 : Below w.heap.size w (w2.setCell ⟨w.heap.size + 1, 8 + n, none⟩ (.int .u32 (rd adds n))) := hbel2.setCell (by simp) _
              have h03 : (w2.setCell ⟨w.heap.size + 1, 8 + n, none⟩ (.int .u32 (rd adds n))).heap[w.heap.size]? = _ := blk_far h02 (by simp) _
              have h13 := blk_set h12 (8 + n) (.int .u32 (rd adds n))
              rw [nums_setA] at h13
              have hLset : (L.set (8 + n) (rd adds n)).length = 72 := by rw [List.length_set]; exact hLlen
              have hL8 := Lib.hid (hL.out.stepS hn8)
              clear hbel2 h12
              go_upto_region 15 with fail
              refine wp_gen (q := fun wr => Below w.heap.size w wr ∧ wr.heap[w.heap.size]? = some (.cells (nums .u32 zeros72).toArray 31) ∧ wr.heap[w.heap.size + 1]? = some (.cells (nums .u32 (L.set (8 + n) (rd adds n))).toArray 31)) ⟨hbel3, h03, h13⟩ (fun w3 h3 => ?_)
              clear hbel3 h03 h13 hc hf h02
              obtain ⟨hbel3, h03, h13⟩ := h3
              go_wp2_with fail
              refine (root_calls d 2 w3 (.inl rfl) (by omega) (by omega)).mono ?_
              rintro e w4 ⟨lo2, rfl, hlo2, hb4⟩
              have hlo3 := root2_at d lo2 hx312 hx2 HP.out (by rw [← hn.out]; exact hn8) hlo2
              rw [← hn.out] at hlo3
              rw [hlo3]
              have hbel4 := below_then hbel3 hbel3.size hb4
              have h04 := heap_below hb4 h03
              have h14 := heap_below hb4 h13
              have hc := blk_num h14 n (by omega)
              have hf := blk_frozen h14 n
              clear hlo2 hlo3 h03 h13 hb4 hb2
              go_wp2
              go_roundw
              case rel =>
                refine ⟨d + 1, n + 1, (L.set (8 + n) (rd adds n)).set n (rd first8.list n), by omega, by omega, hn2, by go_num, by go_num, hL8, hbel4.setCell (by simp) _, blk_far h04 (by simp) _, ?_⟩
                have := blk_set h14 n (.int .u32 (rd first8.list n))
                rwa [nums_setA] at this
              case measure => simp [intOf]; omega
            · have hn8' : (8 : Int) ≤ (n : Int) := by omega
              have hn8b : decide ((n : Int) < 8) = false := decide_eq_false (by omega)
              have hL8 := Lib.hid (hL.out.step8 (by omega) hn64)
              have hbel3 : Below w.heap.size w (w2.setCell ⟨w.heap.size + 1, 8 + n, none⟩ (.int .u32 (rd adds n))) := hbel2.setCell (by simp) _
              have h03 : (w2.setCell ⟨w.heap.size + 1, 8 + n, none⟩ (.int .u32 (rd adds n))).heap[w.heap.size]? = _ := blk_far h02 (by simp) _
              have h13 := blk_set h12 (8 + n) (.int .u32 (rd adds n))
              rw [nums_setA] at h13
              clear hbel2 h12
              go_upto_if 28 with fail
              clear hn8b
              refine wp_gen (q := fun wr => Below w.heap.size w wr ∧ wr.heap[w.heap.size]? = some (.cells (nums .u32 zeros72).toArray 31) ∧ wr.heap[w.heap.size + 1]? = some (.cells (nums .u32 (L.set (8 + n) (rd adds n))).toArray 31)) ⟨hbel3, h03, h13⟩ (fun w3 h3 => ?_)
              clear hbel3 h03 h13
              obtain ⟨hbel3, h03, h13⟩ := h3
              go_wp2
              go_roundw
              case rel =>
                exact ⟨d + 1, n + 1, L.set (8 + n) (rd adds n), by omega, by omega, hn2, by go_num, by go_num, hL8, hbel3, h03, h13⟩
              case measure => simp [intOf]; omega
    · have hcnt := hL.out
      have hn2 : n = 64 := by
        have h1 := cntL_mono primes x 312 hx
        have e := cnt_end
        have e2 := hn.out
        unfold cnt at *
        omega
      rw [hn2] at hcnt
      have hLe := hcnt.done
      subst hLe
      have hn64' : ¬ (n : Int) < 64 := by omega
      clear hcnt hn2 hL hn
      go_wp2_with (first | (refine wpList_load_row rfl 31 (.tmp 1) rfl (w.heap.size + 1) rfl 31 _ _ _ h1 Tryd.underlying31 rfl (info_tabL tabs72 rfl) ?_) | (refine wpList_store_row rfl 31 (.tmp 0) (.tmp 37) rfl w.heap.size (nums .u32 tabs72).toArray rfl rfl 31 _ h0 (info_tabL tabs72 rfl) rfl (nums_all _ _) ?_))
      refine bodyPost_ret (results_cell_row rfl _ _ w.heap.size 31 (nums .u32 tabs72).toArray (0, 0) _ rfl (setRow_heap _ _ _ _ _ _ h0) Tryd.underlying31 rfl (info_tabL tabs72 rfl)) rfl ⟨rfl, below_setRow' hb (Nat.le_refl _) _⟩
end Go.Proofs.YtjlkakggmfmfiaaDoor
