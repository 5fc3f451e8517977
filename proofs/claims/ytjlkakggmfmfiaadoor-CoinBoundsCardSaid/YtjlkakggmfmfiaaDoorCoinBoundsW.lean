/- CoinBounds: for every block, height and number the law's call returns true and changes nothing: views that can't be read. -/
import Derived.Test.YtjlkakggmfmfiaaDoorLeftA
set_option maxRecDepth 100000
set_option linter.unusedVariables false
namespace Go.Proofs.YtjlkakggmfmfiaaDoor
open Go Go.RowKit
set_option maxHeartbeats 16000000 in
theorem plan_nil (w : World) (h : Hd) (hk : h.Ok) (A : Option Addr) (n c : Nat) (ht : Int) :
    Calls Tryd.prog 54 #[.agg (blkCells h A n c).toArray, .int .i64 ht, .nilIface] w fun e w' => e = .returned (.tuple #[.agg dz, .int .i64 1]) ∧ Below w.heap.size w w' := by
  have hUD := Tryd.underlying99
  have g0 := heap_alloc_new w (.cells (blkCells h A n c).toArray 64)
  have gR0 := heap_alloc_new (w.alloc (.cells (blkCells h A n c).toArray 64)) (.cells dz 99)
  have e1 : (w.alloc (.cells (blkCells h A n c).toArray 64)).heap.size = w.heap.size + 1 := by simp
  rw [e1] at gR0
  have hb0 : Below w.heap.size w ((w.alloc (.cells (blkCells h A n c).toArray 64)).alloc (.cells dz 99)) := ((Below.refl _ _).alloc (Nat.le_refl _) _).alloc (by simp) _
  go_enter Tryd.func54, Tryd.ntmps54
  go_upto_region 1 with fail
  refine wp_gen (q := fun wi => Below w.heap.size w wi ∧ wi.heap[w.heap.size + 1]? = some (.cells dz 99)) ⟨hb0, gR0⟩ (fun w0 hw => ?_)
  clear hb0 g0 gR0 e1
  obtain ⟨hb0, gR0⟩ := hw
  go_wp2_with (first | ((with_reducible refine wpList_atS 6 ?_); refine wpList_store_any rfl 99 (.tmp 6) (.tmp 38) rfl (w.heap.size + 1) dz rfl rfl 99 dz gR0 (info_d _ _ _ _) rfl (one_d _ _ _ _ _ _ _ _ _ _) ?_; intro wE hE htE))
  exact bodyPost_ret (results_cell_tmp rfl _ _ (w.heap.size + 1) 99 dz (0, 0) _ rfl hE hUD rfl (info_d _ _ _ _)) rfl ⟨rfl, htE.below hb0 (by omega)⟩
/-- What the law wants of a plan through a view that can't be read. -/
def wantB (c ht e : Int) : Int := if ht < 0 ∨ 1073741824 < ht then 1 else if c = 0 then e else c
theorem planF_bad (h : Hd) (ts : List TTx) (ht e : Int) (he : e ≠ 0) : planF h ts ht e [] = .error (wantB (chkF h ts) ht e) := by
  unfold planF wantB
  by_cases h1 : ht < 0 ∨ 1073741824 < ht
  · simp only [h1, if_true]
  · by_cases h2 : chkF h ts = 0
    · simp only [h1, h2, he, ne_eq, not_true_eq_false, not_false_eq_true, if_true, if_false]
    · simp only [h1, h2, ne_eq, not_false_eq_true, if_true, if_false]
set_option maxHeartbeats 16000000 in
theorem coinBounds_core (w : World) (hT : Tabs w) (hN : Now w) (z : TBlk) (cs : List Value) (hK : blkK.K (· < w.heap.size) w z cs) (ht wh : Int) :
    Calls Tryd.prog 15 #[.agg cs.toArray, .int .i64 ht, .int .i64 wh] w fun e w' => e = .returned (.bool true) ∧ Below w.heap.size w w' := by
  obtain ⟨A, n, c, rfl, hok, hnc, hcm, hC⟩ := hK
  obtain ⟨h, ts⟩ := z
  simp only at hok hC ⊢
  have hUB := Tryd.underlying64
  have hUD := Tryd.underlying99
  have hiB := info_blkA hok A n c
  have hcm' := hcm
  unfold maxLen at hcm'
  have hnI : (n : Int) ≤ 9223372036854775807 := by omega
  have g0 := heap_alloc_new w (.cells (blkCells h A n c).toArray 64)
  have hb0 : Below w.heap.size w (w.alloc (.cells (blkCells h A n c).toArray 64)) := (Below.refl _ _).alloc (Nat.le_refl _) _
  obtain ⟨k, hm, hk2⟩ : ∃ m : Nat, bits .and .i64 wh 1 = (m : Int) ∧ m < 2 := ⟨(wh % 2).toNat, by rw [i64_mask1]; omega, by omega⟩
  go_enter Tryd.func15, Tryd.ntmps15
  go_upto_region 1 with fail
  refine wp_gen (q := fun wi => Below w.heap.size w wi ∧ wi.heap[w.heap.size]? = some (.cells (blkCells h A n c).toArray 64)) ⟨hb0, g0⟩ (fun w0 hw => ?_)
  clear hb0 g0
  obtain ⟨hb0, g0⟩ := hw
  go_wp2_with fail
  refine (head19_calls w0 (hT.below hb0) (hN.below hb0)).mono ?_
  rintro e w1 ⟨rfl, hb1⟩
  have hB1 := below_then hb0 hb0.size hb1
  have g1 := heap_below hb1 g0
  clear hb0 g0 hb1
  have tS1 : w1.cell? ⟨w.heap.size, 68, none⟩ = some (.slice A n c) := blk_cell g1 (by rw [List.getElem?_toArray]; exact blkCells_at hok A n c)
  by_cases hbig : 10 < n
  · have hbig' : (10 : Int) < (n : Int) := by omega
    go_wp2
    go_ret
    exact ⟨rfl, hB1⟩
  · have hbig' : ¬ (10 : Int) < (n : Int) := by omega
    have hq0 := heap_alloc_new w1 (.cells #[.int .i64 12, .int .i64 10] 47)
    obtain ⟨ev, hev, hev0⟩ : ∃ ev : Int, (w1.alloc (.cells #[.int .i64 12, .int .i64 10] 47)).cell? ⟨w1.heap.size, k, none⟩ = some (.int .i64 ev) ∧ ev ≠ 0 := by
      match k, hk2 with
      | 0, _ => exact ⟨12, blk_cell hq0 rfl, by decide⟩
      | 1, _ => exact ⟨10, blk_cell hq0 rfl, by decide⟩
    clear hq0
    have hba : Below w1.heap.size w1 (w1.alloc (.cells #[.int .i64 12, .int .i64 10] 47)) := (Below.refl _ _).alloc (Nat.le_refl _) _
    have HCK : Hid (chkF h ts = chkF h ts) := Lib.hid rfl
    go_upto_region 6 with fail
    refine wp_gen (q := fun wi => Below w1.heap.size w1 wi) hba (fun w2 hb2 => ?_)
    clear hba hev hm
    have hB2 := below_then hB1 hB1.size hb2
    have g2 := heap_below hb2 g1
    clear g1 tS1 hb2 hB1
    have hP := plan_calls w2 (hT.below hB2) (hN.below hB2) (badV ev) ev [] (fun _ => True) (bad_view ev hev0) trivial (· < w.heap.size) h hok A n c ts hnc hcm (by omega) (RK.C.below hC hB2) ht
    rw [planF_bad h ts ht ev hev0] at hP
    go_wp2_with (first | ((with_reducible refine wpList_at 25 ?_); refine wpList_load_row rfl 64 (.tmp 3) rfl w.heap.size rfl 64 _ _ _ g2 hUB rfl hiB ?_))
    refine hP.mono ?_
    rintro e w3 ⟨hb3, rfl⟩
    clear hP
    obtain ⟨wn, hwn⟩ : ∃ wn, wantB (chkF h ts) ht ev = wn := ⟨_, rfl⟩
    rw [hwn]
    have HWN := Lib.hid hwn
    have hB3 := below_then hB2 hB2.size hb3
    have g3 := heap_below hb3 g2
    clear g2 hb3 hB2 hwn
    go_upto_region 7 with (first
      | ((with_reducible refine wpList_atS 8 ?_); refine wpList_store_any rfl 99 (.tmp 8) (.tmp 31) rfl w3.heap.size dz rfl rfl 99 dz (heap_alloc_new _ _) (info_d _ _ _ _) rfl (one_d _ _ _ _ _ _ _ _ _ _) ?_; intro w4 gE4 ht4))
    have hb4 : Below w3.heap.size w3 w4 := ht4.below ((Below.refl _ _).alloc (Nat.le_refl _) _) (Nat.le_refl _)
    have hB4 := below_then hB3 hB3.size hb4
    have g4 := heap_below hb4 g3
    clear g3 hb4 hB3 ht4 gE4
    go_wp2_with (first | ((with_reducible refine wpList_at 34 ?_); refine wpList_load_row rfl 64 (.tmp 3) rfl w.heap.size rfl 64 _ _ _ g4 hUB rfl hiB ?_))
    refine (plan_nil w4 h hok A n c ht).mono ?_
    rintro e w5 ⟨rfl, hb5⟩
    have hB5 := below_then hB4 hB4.size hb5
    have g5 := heap_below hb5 g4
    clear g4 hb5 hB4
    go_upto_region 8 with (first
      | ((with_reducible refine wpList_atS 10 ?_); refine wpList_store_any rfl 99 (.tmp 10) (.tmp 37) rfl w5.heap.size dz rfl rfl 99 dz (heap_alloc_new _ _) (info_d _ _ _ _) rfl (one_d _ _ _ _ _ _ _ _ _ _) ?_; intro w6 gE6 ht6))
    have hb6 : Below w5.heap.size w5 w6 := ht6.below ((Below.refl _ _).alloc (Nat.le_refl _) _) (Nat.le_refl _)
    have hB6 := below_then hB5 hB5.size hb6
    have g6 := heap_below hb6 g5
    clear g5 hb6 hB5 ht6 gE6
    go_wp2_with (first | ((with_reducible refine wpList_at 39 ?_); refine wpList_load_row rfl 64 (.tmp 3) rfl w.heap.size rfl 64 _ _ _ g6 hUB rfl hiB ?_))
    refine (chk_calls w6 (hT.below hB6) (hN.below hB6) _ h hok A n c ts hnc hcm (by omega) (RK.C.below hC hB6)).mono ?_
    rintro e w7 ⟨rfl, hb7⟩
    have hB7 := below_then hB6 hB6.size hb7
    clear g6 hb7 hB6
    obtain ⟨cv, hcv⟩ : ∃ cv, chkF h ts = cv := ⟨_, rfl⟩
    rw [hcv]
    have HW : Hid (wn = if ht < 0 ∨ 1073741824 < ht then 1 else if cv = 0 then ev else cv) := Lib.hid (by rw [← HWN.out, hcv]; rfl)
    clear HWN HCK hcv
    by_cases h1 : ht < 0
    · have HZ : Hid (wn = 1) := Lib.hid (by rw [HW.out, if_pos (Or.inl h1)])
      by_cases hc0 : cv = 0
      · subst hc0
        go_wp2
        try rw [HZ.out]
        go_ret
        exact ⟨rfl, hB7⟩
      · have hc0' : (cv == 0) = false := beq_eq_false_iff_ne.2 hc0
        go_wp2
        try rw [HZ.out]
        go_ret
        exact ⟨rfl, hB7⟩
    · by_cases h2 : 1073741824 < ht
      · have HZ : Hid (wn = 1) := Lib.hid (by rw [HW.out, if_pos (Or.inr h2)])
        by_cases hc0 : cv = 0
        · subst hc0
          go_wp2
          try rw [HZ.out]
          go_ret
          exact ⟨rfl, hB7⟩
        · have hc0' : (cv == 0) = false := beq_eq_false_iff_ne.2 hc0
          go_wp2
          try rw [HZ.out]
          go_ret
          exact ⟨rfl, hB7⟩
      · by_cases hc0 : cv = 0
        · subst hc0
          have HZ : Hid (wn = ev) := Lib.hid (by rw [HW.out, if_neg (by omega), if_pos rfl])
          go_wp2
          try rw [HZ.out]
          go_ret
          exact ⟨rfl, hB7⟩
        · have hc0' : (cv == 0) = false := beq_eq_false_iff_ne.2 hc0
          have HZ : Hid (wn = cv) := Lib.hid (by rw [HW.out, if_neg (by omega), if_neg hc0])
          go_wp2
          try rw [HZ.out]
          go_ret
          exact ⟨rfl, hB7⟩
end Go.Proofs.YtjlkakggmfmfiaaDoor
