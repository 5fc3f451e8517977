/- The reference's Pair: the double digest of two, with the tables given. -/
import Derived.Test.YtjlkakggmfmfiaaDoorRow2
import Derived.Test.YtjlkakggmfmfiaaDoorRefSum
import Derived.Test.YtjlkakggmfmfiaaDoorMake
set_option maxRecDepth 100000
set_option linter.unusedVariables false
namespace Go.Proofs.YtjlkakggmfmfiaaDoor
open Go Go.RowKit
theorem info_z32 (xs : List Int) (h : xs.length = 32) : (Tryd.prog.info? 24).map (·.size) = some (nums .u8 xs).toArray.size := by rw [nums_size, h]; exact info_a32
theorem ilen_tab : (Tryd.prog.info? 31).map (·.size) = some (nums .u32 tabs72).length := by rw [nums_length]; exact info_tab
set_option maxHeartbeats 2000000 in
theorem pair08_calls (xs ys : List Int) (hx : Dig xs) (hy : Dig ys) (w : World) :
    Calls Tryd.prog 92 #[.agg (nums .u32 tabs72).toArray, .agg (nums .u8 xs).toArray, .agg (nums .u8 ys).toArray] w fun e w' => e = .returned (.agg (nums .u8 (pairF xs ys)).toArray) ∧ Below w.heap.size w w' := by
  have hd := pairF_length xs ys
  have hs1 := sumF_length (xs ++ ys)
  have l1 := hx.1
  have l2 := hy.1
  have g0 : ((((w.alloc (.cells (nums .u32 tabs72).toArray 31)).alloc (.cells (nums .u8 xs).toArray 24)).alloc (.cells (nums .u8 ys).toArray 24)).alloc (.cells (nums .u8 zeros32).toArray 24)).heap[w.heap.size]? = some (.cells (nums .u32 tabs72).toArray 31) := blk_alloc (blk_alloc (heap_alloc2_old _ _ _) _) _
  have g1 : ((((w.alloc (.cells (nums .u32 tabs72).toArray 31)).alloc (.cells (nums .u8 xs).toArray 24)).alloc (.cells (nums .u8 ys).toArray 24)).alloc (.cells (nums .u8 zeros32).toArray 24)).heap[w.heap.size + 1]? = some (.cells (nums .u8 xs).toArray 24) := blk_alloc (blk_alloc (heap_alloc2_new _ _ _) _) _
  have g2 : ((((w.alloc (.cells (nums .u32 tabs72).toArray 31)).alloc (.cells (nums .u8 xs).toArray 24)).alloc (.cells (nums .u8 ys).toArray 24)).alloc (.cells (nums .u8 zeros32).toArray 24)).heap[w.heap.size + 1 + 1]? = some (.cells (nums .u8 ys).toArray 24) := by
    have := blk_alloc (heap_alloc_new ((w.alloc (.cells (nums .u32 tabs72).toArray 31)).alloc (.cells (nums .u8 xs).toArray 24)) (.cells (nums .u8 ys).toArray 24)) (.cells (nums .u8 zeros32).toArray 24)
    simpa only [World.size_alloc] using this
  have g3 : ((((w.alloc (.cells (nums .u32 tabs72).toArray 31)).alloc (.cells (nums .u8 xs).toArray 24)).alloc (.cells (nums .u8 ys).toArray 24)).alloc (.cells (nums .u8 zeros32).toArray 24)).heap[w.heap.size + 1 + 1 + 1]? = some (.cells (nums .u8 zeros32).toArray 24) := by
    have := heap_alloc_new (((w.alloc (.cells (nums .u32 tabs72).toArray 31)).alloc (.cells (nums .u8 xs).toArray 24)).alloc (.cells (nums .u8 ys).toArray 24)) (.cells (nums .u8 zeros32).toArray 24)
    simpa only [World.size_alloc] using this
  have hb0 : Below w.heap.size w ((((w.alloc (.cells (nums .u32 tabs72).toArray 31)).alloc (.cells (nums .u8 xs).toArray 24)).alloc (.cells (nums .u8 ys).toArray 24)).alloc (.cells (nums .u8 zeros32).toArray 24)) := ((((Below.refl _ _).alloc (Nat.le_refl _) _).alloc (by simp) _).alloc (by simp; omega) _).alloc (by simp; omega) _
  go_enter Tryd.func92, Tryd.ntmps92
  go_upto_region 1 with fail
  refine wp_gen (q := fun wi => wi.heap[w.heap.size]? = some (.cells (nums .u32 tabs72).toArray 31) ∧ wi.heap[w.heap.size + 1]? = some (.cells (nums .u8 xs).toArray 24) ∧ wi.heap[w.heap.size + 1 + 1]? = some (.cells (nums .u8 ys).toArray 24) ∧ wi.heap[w.heap.size + 1 + 1 + 1]? = some (.cells (nums .u8 zeros32).toArray 24) ∧ Below w.heap.size w wi) ⟨g0, g1, g2, g3, hb0⟩ (fun wi hw => ?_)
  clear g0 g1 g2 g3 hb0
  obtain ⟨g0, g1, g2, g3, hb0⟩ := hw
  have hzs := heap_lt g3
  refine wp_region_noPanic ?_
  refine wp_region_held_drew (S := fun w' => Below wi.heap.size wi w') (by kernel_rfl) (Below.drew (Below.refl _ _)) (fun hHeld => ?_)
  -- 1: ref.go:8 slot 10 := Op.slice 24 t4 none none none
  refine wpAnyH_take (i := 1) (oi := ⟨some 10, _, _, _, _, _⟩) (v := ?_) rfl (by kernel_rfl) (by kernel_rfl) (by kernel_rfl) (fun _ _ _ h => h) (Or.inl ⟨by rfl, ?_⟩) (by assumption) ?_
  rotate_left 1
  · intro w hSw; (try dsimp only at hSw); go_simp; try with_reducible rfl
  simp only [Act.put, List.setIfInBounds_toArray, List.set_cons_zero, List.set_cons_succ]
  -- 3: ref.go:8 slot 12 := Op.slice 24 t5 none none none
  refine wpAnyH_take (i := 3) (oi := ⟨some 12, _, _, _, _, _⟩) (v := ?_) rfl (by kernel_rfl) (by kernel_rfl) (by kernel_rfl) (fun _ _ _ h => h) (Or.inl ⟨by rfl, ?_⟩) (by assumption) ?_
  rotate_left 1
  · intro w hSw; (try dsimp only at hSw); go_simp; try with_reducible rfl
  simp only [Act.put, List.setIfInBounds_toArray, List.set_cons_zero, List.set_cons_succ]
  -- 0: ref.go:8 slot 9 := Op.buildSlice 22 0 #[]
  refine wpAnyH_ready (rs := [0]) (by kernel_rfl) (by simp) ?_
  refine AllReadyH.cons (o := ⟨some 9, _, _, _, _, _⟩) rfl (fun K hK => ?_) AllReadyH.nil
  go_simp
  have how1 := own_empty (w := wi.drew) (base := wi.heap.size) 5 1 (Nat.le_refl _)
  have r1 : Rd (wi.drew.alloc (.cells #[] 5)) (some ⟨w.heap.size + 1, 0, none⟩) 32 (nums .u8 xs) := by have := (Rd.of_block0 g1).alloc (.cells #[] 5); rw [nums_length, l1] at this; exact this
  refine hK.out _ _ (hHeld.alloc hHeld.size _) (fun hHeld' => ?_)
  clear hHeld
  have hHeld := hHeld'
  clear hHeld'
  clear hK K
  try (simp only [Act.put, List.setIfInBounds_toArray, List.set_cons_zero, List.set_cons_succ])
  -- 2: ref.go:8 slot 11 := Op.call { builtin append, args := #[t9, t10], argTypes := #[22, 22] }
  refine wpAnyH_ready (rs := [2]) (by kernel_rfl) (by simp) ?_
  refine AllReadyH.cons (o := ⟨some 11, _, _, _, _, _⟩) rfl (fun K hK => ?_) AllReadyH.nil
  refine step_appN (by rfl) (.tmp 9) (.tmp 10) 22 (by rfl) wi.heap.size 5 _ 1 Tryd.underlying22 info8S rfl (.slice (some ⟨wi.heap.size, 0, none⟩) 0 0) 0 (nums .u8 []) (by rfl) how1 (some ⟨w.heap.size + 1, 0, none⟩) 32 32 (nums .u8 xs) (by rfl) r1 (nums_one _ _) 32 (nums .u8 xs) (Nat.zero_add _) rfl (by decide) (by decide) (by simp) ?_
  intro A2 c2 w2 hown2 hgrow2 hat2
  have hb2 : Below wi.heap.size wi w2 := Below.grown hHeld hgrow2 hHeld.size (fun k hk => by simp [Value.ownBlock] at hk; omega)
  have r2 : Rd w2 (some ⟨w.heap.size + 1 + 1, 0, none⟩) 32 (nums .u8 ys) := by have := Rd.below (Rd.of_block0 g2) hb2; rw [nums_length, l2] at this; exact this
  refine hK.out _ _ hb2 (fun hHeld' => ?_)
  clear hHeld
  have hHeld := hHeld'
  clear hHeld'
  clear how1 hgrow2 hat2 r1
  clear hK K
  try (simp only [Act.put, List.setIfInBounds_toArray, List.set_cons_zero, List.set_cons_succ])
  -- 4: ref.go:8 slot 13 := Op.call { builtin append, args := #[t11, t12], argTypes := #[22, 22] }
  refine wpAnyH_ready (rs := [4]) (by kernel_rfl) (by simp) ?_
  refine AllReadyH.cons (o := ⟨some 13, _, _, _, _, _⟩) rfl (fun K hK => ?_) AllReadyH.nil
  refine step_appN (by rfl) (.tmp 11) (.tmp 12) 22 (by rfl) wi.heap.size 5 _ 1 Tryd.underlying22 info8S rfl (.slice A2 32 c2) 32 (nums .u8 xs) (by rfl) hown2 (some ⟨w.heap.size + 1 + 1, 0, none⟩) 32 32 (nums .u8 ys) (by rfl) r2 (nums_one _ _) 64 (nums .u8 (xs ++ ys)) rfl (nums_append _ _ _).symm (by decide) (by decide) hHeld.size ?_
  intro A3 c3 w3 hown3 hgrow3 hat3
  have hb3 : Below wi.heap.size wi w3 := Below.grown hHeld hgrow3 hHeld.size (fun k hk => own_base hown2 k hk)
  refine hK.out _ _ hb3 (fun hHeld' => ?_)
  clear hHeld
  have hHeld := hHeld'
  clear hHeld'
  clear hown2 hgrow3 hat3 r2 hb2 hb3
  clear hK K
  try (simp only [Act.put, List.setIfInBounds_toArray, List.set_cons_zero, List.set_cons_succ])
  -- 5: ref.go:8 slot 7 := Op.assign t13
  refine wpAnyH_take (i := 5) (oi := ⟨some 7, _, _, _, _, _⟩) (v := ?_) rfl (by kernel_rfl) (by kernel_rfl) (by kernel_rfl) (fun _ _ _ h => h) (Or.inl ⟨by rfl, ?_⟩) (by assumption) ?_
  rotate_left 1
  · intro w hSw; (try dsimp only at hSw); go_simp; try with_reducible rfl
  simp only [Act.put, List.setIfInBounds_toArray, List.set_cons_zero, List.set_cons_succ]
  refine wpAnyH_done (by kernel_rfl) ?_ _
  refine NoPanic.normal ?_
  have hm3 := Rd.of_own hown3
  have hc3 := (own_le hown3).1
  have hb3 := hHeld
  have k0 := heap_below hb3 g0
  have k3 := heap_below hb3 g3
  have b03 := below_then hb0 hb0.size hb3
  clear hHeld hb3 g0 g1 g2 g3 hb0 hown3
  go_wp2_with (first | (refine wpList_load_row rfl 31 (.tmp 3) rfl w.heap.size rfl 31 _ _ _ k0 Tryd.underlying31 rfl (info_tabL tabs72 rfl) ?_))
  refine (refsum_calls A3 64 c3 (xs ++ ys) _ (by decide) (hx.2.append hy.2) hm3).mono ?_
  rintro e w4 ⟨rfl, hb4⟩
  have k04 := heap_below hb4 k0
  have k34 := heap_below hb4 k3
  have b04 := below_then b03 b03.size hb4
  clear k0 k3 b03 hb4 hm3
  go_upto_region 3 with (first | (refine wpList_store_any rfl 24 (.tmp 8) (.tmp 16) rfl w4.heap.size (nums .u8 (sumF (xs ++ ys))).toArray rfl rfl 24 (nums .u8 zeros32).toArray (heap_alloc_new _ _) (info_z32 _ hs1) (size_h _ hs1) (nums_all _ _) ?_; intro w5 h5 ht5))
  have hb5 : Below w4.heap.size w4 w5 := ht5.below ((Below.refl w4.heap.size w4).alloc (Nat.le_refl _) _) (Nat.le_refl _)
  have k05 := heap_below hb5 k04
  have k35 := heap_below hb5 k34
  have b05 := below_then b04 b04.size hb5
  have r5 := Rd.of_block0 h5
  rw [nums_length, hs1] at r5
  clear ht5 hb5 k04 k34 b04 h5
  refine wp_region_quiet_tail_lit 2 (by kernel_rfl) (by kernel_rfl) ?_
  simp only [List.take_succ_cons, List.take_zero, List.drop_succ_cons, List.drop_zero]
  refine wpQuiet_load_row rfl 31 (.tmp 3) rfl w.heap.size rfl 31 _ _ _ k05 Tryd.underlying31 rfl (info_tabL tabs72 rfl) ?_
  repeat (first | go_big_quiet_step (fail) | quiet_step (fail))
  refine wpQuiet_nil ?_
  rintro _ ⟨nq, rfl⟩
  go_wp2_with fail
  refine (refsum_calls (some ⟨w4.heap.size, 0, none⟩) 32 32 (sumF (xs ++ ys)) _ (by decide) (sumF_bytes _) (r5.drewN nq)).mono ?_
  rintro e w6 ⟨rfl, hb6⟩
  have k36 := heap_below hb6 (show (w5.drewN nq).heap[w.heap.size + 1 + 1 + 1]? = _ from k35)
  have b06 := below_then (below_drewN b05 nq) (by simp; exact b05.size) hb6
  clear k05 k35 b05 hb6 r5
  go_wp2_with (first | (refine wpList_store_any rfl 24 (.tmp 6) (.tmp 19) rfl (w.heap.size + 1 + 1 + 1) (nums .u8 (pairF xs ys)).toArray rfl rfl 24 (nums .u8 zeros32).toArray k36 (info_z32 _ hd) (size_h _ hd) (nums_all _ _) ?_; intro w7 h7 ht7))
  refine bodyPost_ret (results_cell_row rfl _ _ (w.heap.size + 1 + 1 + 1) 24 (nums .u8 (pairF xs ys)).toArray (0, 0) _ rfl h7 Tryd.underlying24 rfl (info_z32 _ hd)) rfl ⟨rfl, ht7.below b06 (by omega)⟩
end Go.Proofs.YtjlkakggmfmfiaaDoor
