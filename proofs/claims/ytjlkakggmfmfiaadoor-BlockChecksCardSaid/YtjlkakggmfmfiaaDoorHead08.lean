/- The head of layer 8's statements. -/
import Derived.Test.YtjlkakggmfmfiaaDoorBlkRoot
set_option maxRecDepth 100000
set_option linter.unusedVariables false
namespace Go.Proofs.YtjlkakggmfmfiaaDoor
open Go Go.RowKit
def digN (x : Int) : List Int := x :: List.replicate 31 0
theorem digN_dig (x : Int) (h0 : 0 ≤ x) (h1 : x ≤ 255) : Dig (digN x) := ⟨rfl, fun y hy => by
  rcases List.mem_cons.1 hy with rfl | hy
  · exact ⟨h0, h1⟩
  · rw [List.eq_of_mem_replicate hy]; exact ⟨by decide, by decide⟩⟩
theorem rootF2 (a b : List Int) : rootF [a, b] = pairF a b := by
  rw [← rootF_up [a, b] (by simp), rootF_one _ (by rw [upF_length]; simp), upF_get _ 0 (by simp)]
  simp [pairAt, dg]
theorem upF3 (a b c : List Int) : upF [a, b, c] = [pairF a b, pairF c c] := by
  simp [upF, pairAt, dg, List.range_succ]
theorem rootF3 (a b c : List Int) : rootF [a, b, c] = pairF (pairF a b) (pairF c c) := by
  rw [← rootF_up [a, b, c] (by simp), upF3, rootF2]
theorem eq_digests (xs ys : List Int) (hx : xs.length = 32) (hy : ys.length = 32) (e : xs = ys) (W : World) : (Op.equalIn 10000 25 (.agg (nums .u8 xs).toArray) (.agg (nums .u8 ys).toArray)).run Tryd.prog W = .ok true W := by
  rw [run_equalIn_nums (P := Tryd.prog) W 9998 25 5 32 .u8 .u8 Tryd.underlying25 Tryd.underlying5 info_u8 xs ys hx hy, e, beq_self_eq_true]
set_option maxHeartbeats 2000000 in
theorem head08_calls (w : World) (hT : Tabs w) : Calls Tryd.prog 27 #[] w fun e w' => e = .returned (.bool true) ∧ Below w.heap.size w w' := by
  obtain ⟨d1, hd1⟩ : ∃ d, d = digN 1 := ⟨_, rfl⟩
  obtain ⟨d2, hd2⟩ : ∃ d, d = digN 2 := ⟨_, rfl⟩
  obtain ⟨d3, hd3⟩ : ∃ d, d = digN 3 := ⟨_, rfl⟩
  have D1 : Dig d1 := by rw [hd1]; exact digN_dig 1 (by decide) (by decide)
  have D2 : Dig d2 := by rw [hd2]; exact digN_dig 2 (by decide) (by decide)
  have D3 : Dig d3 := by rw [hd3]; exact digN_dig 3 (by decide) (by decide)
  have l1 := D1.1
  have l2 := D2.1
  have l3 := D3.1
  have H1 := Lib.hid hd1
  have H2 := Lib.hid hd2
  have H3 := Lib.hid hd3
  clear hd1 hd2 hd3
  go_enter Tryd.func27, Tryd.ntmps27
  go_upto_region 2 with (first | (refine wpList_store_any rfl 25 (.tmp 1) (.tmp 4) rfl w.heap.size (nums .u8 d1).toArray rfl (by rw [H1.out]; rfl) 25 (nums .u8 zeros32).toArray (heap_alloc_new _ _) (info_h _ l1) (size_h _ l1) (nums_all _ _) ?_; intro w1 g1 ht1))
  have b1 : Below w.heap.size w w1 := ht1.below ((Below.refl w.heap.size w).alloc (Nat.le_refl _) _) (Nat.le_refl _)
  clear ht1
  go_upto_region 3 with (first | (refine wpList_store_any rfl 25 (.tmp 2) (.tmp 5) rfl w1.heap.size (nums .u8 d2).toArray rfl (by rw [H2.out]; rfl) 25 (nums .u8 zeros32).toArray (heap_alloc_new _ _) (info_h _ l2) (size_h _ l2) (nums_all _ _) ?_; intro w2 g2 ht2))
  have b2 : Below w1.heap.size w1 w2 := ht2.below ((Below.refl w1.heap.size w1).alloc (Nat.le_refl _) _) (Nat.le_refl _)
  have g12 := heap_below b2 g1
  have b02 := below_then b1 b1.size b2
  clear ht2 g1 b1 b2
  go_upto_region 4 with (first | (refine wpList_store_any rfl 25 (.tmp 3) (.tmp 6) rfl w2.heap.size (nums .u8 d3).toArray rfl (by rw [H3.out]; rfl) 25 (nums .u8 zeros32).toArray (heap_alloc_new _ _) (info_h _ l3) (size_h _ l3) (nums_all _ _) ?_; intro w3 g3 ht3))
  have b3 : Below w2.heap.size w2 w3 := ht3.below ((Below.refl w2.heap.size w2).alloc (Nat.le_refl _) _) (Nat.le_refl _)
  have r1 := range_block (heap_below b3 g12)
  have r2 := range_block (heap_below b3 g2)
  have r3 := range_block g3
  have b03 := below_then b02 b02.size b3
  have hT3 := hT.below b03
  clear ht3 g12 g2 g3 b02 b3 hT H1 H2 H3
  have u2 := Tryd.underlying25
  have i1 := ilen_hash d1 l1
  have i2 := ilen_hash d2 l2
  have i3 := ilen_hash d3 l3
  have p12 := dig_pair d1 d2
  have p33 := dig_pair d3 d3
  have q1 := eq_digests (rootF [d1]) d1 (by rw [rootF_one _ rfl]; exact l1) l1 (rootF_one _ rfl)
  have q2 := eq_digests (rootF [d1, d2]) (pairF d1 d2) (by rw [rootF2]; exact p12.1) p12.1 (rootF2 _ _)
  have q3 := eq_digests (rootF [d1, d2, d3]) (pairF (pairF d1 d2) (pairF d3 d3)) (by rw [rootF3]; exact (dig_pair _ _).1) (dig_pair _ _).1 (rootF3 _ _ _)
  have D12 : Digs [d1, d2] := (Digs.one D1).append (Digs.one D2)
  have D123 : Digs [d1, d2, d3] := D12.append (Digs.one D3)
  refine wp_region_noPanic ?_
  refine wp_region_held_drew (S := fun w' => w'.rangeAt w.heap.size 0 (nums .u8 d1) ∧ w'.rangeAt w1.heap.size 0 (nums .u8 d2) ∧ w'.rangeAt w2.heap.size 0 (nums .u8 d3) ∧ Below w3.heap.size w3 w') (by kernel_rfl) ⟨r1, r2, r3, Below.drew (Below.refl _ _)⟩ (fun hHeld => ?_)
  -- 0: law.go:19 slot 7 := Op.load 25 t1
  refine wpAnyH_take (i := 0) (oi := ⟨some 7, _, _, _, _, _⟩) rfl (by kernel_rfl) (by kernel_rfl) (by kernel_rfl) (fun _ _ _ h => h) (yieldsIf_load_mid (by rfl) _ _ rfl _ _ rfl (nums .u8 d1) _ (fun _ h => h.1) u2 rfl i1) (by assumption) ?_
  simp only [Act.put, List.setIfInBounds_toArray, List.set_cons_zero, List.set_cons_succ]
  -- 3: law.go:19 slot 10 := Op.load 25 t1
  refine wpAnyH_take (i := 3) (oi := ⟨some 10, _, _, _, _, _⟩) rfl (by kernel_rfl) (by kernel_rfl) (by kernel_rfl) (fun _ _ _ h => h) (yieldsIf_load_mid (by rfl) _ _ rfl _ _ rfl (nums .u8 d1) _ (fun _ h => h.1) u2 rfl i1) (by assumption) ?_
  simp only [Act.put, List.setIfInBounds_toArray, List.set_cons_zero, List.set_cons_succ]
  -- 1: law.go:19 slot 8 := Op.buildSlice 38 1 #[(0, t7)]
  refine wpAnyH_ready (rs := [1]) (by kernel_rfl) (by simp) ?_
  refine AllReadyH.cons (o := ⟨some 8, _, _, _, _, _⟩) rfl (fun K hK => ?_) AllReadyH.nil
  refine step_buildH (by rfl) 38 25 1 _ (by rfl) Tryd.underlying38 zinfo_hash [d1] (by rfl) (Digs.one D1) rfl (by decide) (by decide) (flatH [d1]) rfl ?_
  refine hK.out _ _ ⟨World.rangeAt_alloc hHeld.1 _, World.rangeAt_alloc hHeld.2.1 _, World.rangeAt_alloc hHeld.2.2.1 _, hHeld.2.2.2.alloc hHeld.2.2.2.size _⟩ (fun hHeld' => ?_)
  clear hHeld
  have hHeld := hHeld'
  clear hHeld'
  have hC := HC.of_flat (heap_alloc_new w3.drew (.cells (flatH [d1]).toArray 25)) (Digs.one D1)
  clear hK K
  try (simp only [Act.put, List.setIfInBounds_toArray, List.set_cons_zero, List.set_cons_succ])
  -- 2: law.go:19 slot 9 := Op.call { value (Operand.func 28), args := #[t8], argTypes := #[38] }
  refine wpAnyH_ready (rs := [2]) (by kernel_rfl) (by simp) ?_
  refine AllReadyH.cons (o := ⟨some 9, _, _, _, _, _⟩) rfl (fun K hK => ?_) AllReadyH.nil
  go_simp
  refine (blkroot_calls _ (hT3.below hHeld.2.2.2) (some ⟨(w3.drew).heap.size, 0, none⟩) 1 1 [d1] (Nat.le_refl _) (by decide) hC).mono ?_
  rintro e w4 ⟨rfl, hbq⟩
  try go_wp2_with fail
  refine hK.out _ _ ⟨range_below hbq hHeld.1, range_below hbq hHeld.2.1, range_below hbq hHeld.2.2.1, below_then hHeld.2.2.2 hHeld.2.2.2.size hbq⟩ (fun hHeld' => ?_)
  clear hHeld
  have hHeld := hHeld'
  clear hHeld'
  clear hbq hC
  clear hK K
  try (simp only [Act.put, List.setIfInBounds_toArray, List.set_cons_zero, List.set_cons_succ])
  -- 4: law.go:19 slot 11 := Op.binOp BinOp.eql 25 t9 t10 25
  refine wpAnyH_take (i := 4) (oi := ⟨some 11, _, _, _, _, _⟩) (v := ?_) rfl (by kernel_rfl) (by kernel_rfl) (by kernel_rfl) (fun _ _ _ h => h) (Or.inl ⟨by rfl, ?_⟩) (by assumption) ?_
  rotate_left 1
  · intro w hSw; (try dsimp only at hSw); go_simp; try with_reducible rfl
  simp only [Act.put, List.setIfInBounds_toArray, List.set_cons_zero, List.set_cons_succ]
  -- 5: law.go:19 slot 12 := Op.move t11
  refine wpAnyH_take (i := 5) (oi := ⟨some 12, _, _, _, _, _⟩) (v := ?_) rfl (by kernel_rfl) (by kernel_rfl) (by kernel_rfl) (fun _ _ _ h => h) (Or.inl ⟨by rfl, ?_⟩) (by assumption) ?_
  rotate_left 1
  · intro w hSw; (try dsimp only at hSw); go_simp; try with_reducible rfl
  simp only [Act.put, List.setIfInBounds_toArray, List.set_cons_zero, List.set_cons_succ]
  -- 6: law.go:19 slot 13 := Op.load 25 t1 [guarded: some (5, true)]
  refine wpAnyH_take (i := 6) (oi := ⟨some 13, _, _, _, _, _⟩) rfl (by kernel_rfl) (by kernel_rfl) (by kernel_rfl) (fun _ _ _ h => h) (yieldsIf_load_mid (by rfl) _ _ rfl _ _ rfl (nums .u8 d1) _ (fun _ h => h.1) u2 rfl i1) (by assumption) ?_
  simp only [Act.put, List.setIfInBounds_toArray, List.set_cons_zero, List.set_cons_succ]
  -- 7: law.go:19 slot 14 := Op.load 25 t2 [guarded: some (5, true)]
  refine wpAnyH_take (i := 7) (oi := ⟨some 14, _, _, _, _, _⟩) rfl (by kernel_rfl) (by kernel_rfl) (by kernel_rfl) (fun _ _ _ h => h) (yieldsIf_load_mid (by rfl) _ _ rfl _ _ rfl (nums .u8 d2) _ (fun _ h => h.2.1) u2 rfl i2) (by assumption) ?_
  simp only [Act.put, List.setIfInBounds_toArray, List.set_cons_zero, List.set_cons_succ]
  -- 10: law.go:19 slot 17 := Op.load 25 t1 [guarded: some (5, true)]
  refine wpAnyH_take (i := 10) (oi := ⟨some 17, _, _, _, _, _⟩) rfl (by kernel_rfl) (by kernel_rfl) (by kernel_rfl) (fun _ _ _ h => h) (yieldsIf_load_mid (by rfl) _ _ rfl _ _ rfl (nums .u8 d1) _ (fun _ h => h.1) u2 rfl i1) (by assumption) ?_
  simp only [Act.put, List.setIfInBounds_toArray, List.set_cons_zero, List.set_cons_succ]
  -- 11: law.go:19 slot 18 := Op.load 25 t2 [guarded: some (5, true)]
  refine wpAnyH_take (i := 11) (oi := ⟨some 18, _, _, _, _, _⟩) rfl (by kernel_rfl) (by kernel_rfl) (by kernel_rfl) (fun _ _ _ h => h) (yieldsIf_load_mid (by rfl) _ _ rfl _ _ rfl (nums .u8 d2) _ (fun _ h => h.2.1) u2 rfl i2) (by assumption) ?_
  simp only [Act.put, List.setIfInBounds_toArray, List.set_cons_zero, List.set_cons_succ]
  -- 8: law.go:19 slot 15 := Op.buildSlice 38 2 #[(0, t13), (1, t14)] [guarded: some (5, true)]
  refine wpAnyH_ready (rs := [8]) (by kernel_rfl) (by simp) ?_
  refine AllReadyH.cons (o := ⟨some 15, _, _, _, _, _⟩) rfl (fun K hK => ?_) AllReadyH.nil
  refine step_buildH (by rfl) 38 25 2 _ (by rfl) Tryd.underlying38 zinfo_hash [d1, d2] (by rfl) D12 rfl (by decide) (by decide) (flatH [d1, d2]) rfl ?_
  refine hK.out _ _ ⟨World.rangeAt_alloc hHeld.1 _, World.rangeAt_alloc hHeld.2.1 _, World.rangeAt_alloc hHeld.2.2.1 _, hHeld.2.2.2.alloc hHeld.2.2.2.size _⟩ (fun hHeld' => ?_)
  clear hHeld
  have hHeld := hHeld'
  clear hHeld'
  have hC := HC.of_flat (heap_alloc_new w4 (.cells (flatH [d1, d2]).toArray 25)) D12
  clear hK K
  try (simp only [Act.put, List.setIfInBounds_toArray, List.set_cons_zero, List.set_cons_succ])
  -- 9: law.go:19 slot 16 := Op.call { value (Operand.func 28), args := #[t15], argTypes := #[38] } [guarded: some (5, true)]
  refine wpAnyH_ready (rs := [9]) (by kernel_rfl) (by simp) ?_
  refine AllReadyH.cons (o := ⟨some 16, _, _, _, _, _⟩) rfl (fun K hK => ?_) AllReadyH.nil
  go_simp
  refine (blkroot_calls _ (hT3.below hHeld.2.2.2) (some ⟨(w4).heap.size, 0, none⟩) 2 2 [d1, d2] (Nat.le_refl _) (by decide) hC).mono ?_
  rintro e w5 ⟨rfl, hbq⟩
  try go_wp2_with fail
  refine hK.out _ _ ⟨range_below hbq hHeld.1, range_below hbq hHeld.2.1, range_below hbq hHeld.2.2.1, below_then hHeld.2.2.2 hHeld.2.2.2.size hbq⟩ (fun hHeld' => ?_)
  clear hHeld
  have hHeld := hHeld'
  clear hHeld'
  clear hbq hC
  clear hK K
  try (simp only [Act.put, List.setIfInBounds_toArray, List.set_cons_zero, List.set_cons_succ])
  -- 12: law.go:19 slot 19 := Op.call { value (Operand.func 26), args := #[t17, t18], argTypes := #[25, 25] } [guarded: some (5, true)]
  refine wpAnyH_ready (rs := [12]) (by kernel_rfl) (by simp) ?_
  refine AllReadyH.cons (o := ⟨some 19, _, _, _, _, _⟩) rfl (fun K hK => ?_) AllReadyH.nil
  go_simp
  refine (pair_calls d1 d2 D1.1 D2.1 D1.2 D2.2 _ (hT3.below hHeld.2.2.2)).mono ?_
  rintro e w6 ⟨rfl, hbq⟩
  try go_wp2_with fail
  refine hK.out _ _ ⟨range_below hbq hHeld.1, range_below hbq hHeld.2.1, range_below hbq hHeld.2.2.1, below_then hHeld.2.2.2 hHeld.2.2.2.size hbq⟩ (fun hHeld' => ?_)
  clear hHeld
  have hHeld := hHeld'
  clear hHeld'
  clear hbq
  clear hK K
  try (simp only [Act.put, List.setIfInBounds_toArray, List.set_cons_zero, List.set_cons_succ])
  -- 13: law.go:19 slot 20 := Op.binOp BinOp.eql 25 t16 t19 25 [guarded: some (5, true)]
  refine wpAnyH_take (i := 13) (oi := ⟨some 20, _, _, _, _, _⟩) (v := ?_) rfl (by kernel_rfl) (by kernel_rfl) (by kernel_rfl) (fun _ _ _ h => h) (Or.inl ⟨by rfl, ?_⟩) (by assumption) ?_
  rotate_left 1
  · intro w hSw; (try dsimp only at hSw); go_simp; try with_reducible rfl
  simp only [Act.put, List.setIfInBounds_toArray, List.set_cons_zero, List.set_cons_succ]
  -- 14: law.go:19 slot 21 := Op.pick t12 t20 (const (Value.bool false))
  refine wpAnyH_take (i := 14) (oi := ⟨some 21, _, _, _, _, _⟩) (v := ?_) rfl (by kernel_rfl) (by kernel_rfl) (by kernel_rfl) (fun _ _ _ h => h) (Or.inl ⟨by rfl, ?_⟩) (by assumption) ?_
  rotate_left 1
  · intro w hSw; (try dsimp only at hSw); go_simp; try with_reducible rfl
  simp only [Act.put, List.setIfInBounds_toArray, List.set_cons_zero, List.set_cons_succ]
  -- 15: law.go:19 slot 22 := Op.move t21
  refine wpAnyH_take (i := 15) (oi := ⟨some 22, _, _, _, _, _⟩) (v := ?_) rfl (by kernel_rfl) (by kernel_rfl) (by kernel_rfl) (fun _ _ _ h => h) (Or.inl ⟨by rfl, ?_⟩) (by assumption) ?_
  rotate_left 1
  · intro w hSw; (try dsimp only at hSw); go_simp; try with_reducible rfl
  simp only [Act.put, List.setIfInBounds_toArray, List.set_cons_zero, List.set_cons_succ]
  -- 16: law.go:19 slot 23 := Op.load 25 t1 [guarded: some (15, true)]
  refine wpAnyH_take (i := 16) (oi := ⟨some 23, _, _, _, _, _⟩) rfl (by kernel_rfl) (by kernel_rfl) (by kernel_rfl) (fun _ _ _ h => h) (yieldsIf_load_mid (by rfl) _ _ rfl _ _ rfl (nums .u8 d1) _ (fun _ h => h.1) u2 rfl i1) (by assumption) ?_
  simp only [Act.put, List.setIfInBounds_toArray, List.set_cons_zero, List.set_cons_succ]
  -- 17: law.go:19 slot 24 := Op.load 25 t2 [guarded: some (15, true)]
  refine wpAnyH_take (i := 17) (oi := ⟨some 24, _, _, _, _, _⟩) rfl (by kernel_rfl) (by kernel_rfl) (by kernel_rfl) (fun _ _ _ h => h) (yieldsIf_load_mid (by rfl) _ _ rfl _ _ rfl (nums .u8 d2) _ (fun _ h => h.2.1) u2 rfl i2) (by assumption) ?_
  simp only [Act.put, List.setIfInBounds_toArray, List.set_cons_zero, List.set_cons_succ]
  -- 18: law.go:19 slot 25 := Op.load 25 t3 [guarded: some (15, true)]
  refine wpAnyH_take (i := 18) (oi := ⟨some 25, _, _, _, _, _⟩) rfl (by kernel_rfl) (by kernel_rfl) (by kernel_rfl) (fun _ _ _ h => h) (yieldsIf_load_mid (by rfl) _ _ rfl _ _ rfl (nums .u8 d3) _ (fun _ h => h.2.2.1) u2 rfl i3) (by assumption) ?_
  simp only [Act.put, List.setIfInBounds_toArray, List.set_cons_zero, List.set_cons_succ]
  -- 21: law.go:19 slot 28 := Op.load 25 t1 [guarded: some (15, true)]
  refine wpAnyH_take (i := 21) (oi := ⟨some 28, _, _, _, _, _⟩) rfl (by kernel_rfl) (by kernel_rfl) (by kernel_rfl) (fun _ _ _ h => h) (yieldsIf_load_mid (by rfl) _ _ rfl _ _ rfl (nums .u8 d1) _ (fun _ h => h.1) u2 rfl i1) (by assumption) ?_
  simp only [Act.put, List.setIfInBounds_toArray, List.set_cons_zero, List.set_cons_succ]
  -- 22: law.go:19 slot 29 := Op.load 25 t2 [guarded: some (15, true)]
  refine wpAnyH_take (i := 22) (oi := ⟨some 29, _, _, _, _, _⟩) rfl (by kernel_rfl) (by kernel_rfl) (by kernel_rfl) (fun _ _ _ h => h) (yieldsIf_load_mid (by rfl) _ _ rfl _ _ rfl (nums .u8 d2) _ (fun _ h => h.2.1) u2 rfl i2) (by assumption) ?_
  simp only [Act.put, List.setIfInBounds_toArray, List.set_cons_zero, List.set_cons_succ]
  -- 24: law.go:19 slot 31 := Op.load 25 t3 [guarded: some (15, true)]
  refine wpAnyH_take (i := 24) (oi := ⟨some 31, _, _, _, _, _⟩) rfl (by kernel_rfl) (by kernel_rfl) (by kernel_rfl) (fun _ _ _ h => h) (yieldsIf_load_mid (by rfl) _ _ rfl _ _ rfl (nums .u8 d3) _ (fun _ h => h.2.2.1) u2 rfl i3) (by assumption) ?_
  simp only [Act.put, List.setIfInBounds_toArray, List.set_cons_zero, List.set_cons_succ]
  -- 25: law.go:19 slot 32 := Op.load 25 t3 [guarded: some (15, true)]
  refine wpAnyH_take (i := 25) (oi := ⟨some 32, _, _, _, _, _⟩) rfl (by kernel_rfl) (by kernel_rfl) (by kernel_rfl) (fun _ _ _ h => h) (yieldsIf_load_mid (by rfl) _ _ rfl _ _ rfl (nums .u8 d3) _ (fun _ h => h.2.2.1) u2 rfl i3) (by assumption) ?_
  simp only [Act.put, List.setIfInBounds_toArray, List.set_cons_zero, List.set_cons_succ]
  -- 19: law.go:19 slot 26 := Op.buildSlice 38 3 #[(0, t23), (1, t24), (2, t25)] [guarded: some (15, true)]
  refine wpAnyH_ready (rs := [19]) (by kernel_rfl) (by simp) ?_
  refine AllReadyH.cons (o := ⟨some 26, _, _, _, _, _⟩) rfl (fun K hK => ?_) AllReadyH.nil
  refine step_buildH (by rfl) 38 25 3 _ (by rfl) Tryd.underlying38 zinfo_hash [d1, d2, d3] (by rfl) D123 rfl (by decide) (by decide) (flatH [d1, d2, d3]) rfl ?_
  refine hK.out _ _ ⟨World.rangeAt_alloc hHeld.1 _, World.rangeAt_alloc hHeld.2.1 _, World.rangeAt_alloc hHeld.2.2.1 _, hHeld.2.2.2.alloc hHeld.2.2.2.size _⟩ (fun hHeld' => ?_)
  clear hHeld
  have hHeld := hHeld'
  clear hHeld'
  have hC := HC.of_flat (heap_alloc_new w6 (.cells (flatH [d1, d2, d3]).toArray 25)) D123
  clear hK K
  try (simp only [Act.put, List.setIfInBounds_toArray, List.set_cons_zero, List.set_cons_succ])
  -- 20: law.go:19 slot 27 := Op.call { value (Operand.func 28), args := #[t26], argTypes := #[38] } [guarded: some (15, true)]
  refine wpAnyH_ready (rs := [20]) (by kernel_rfl) (by simp) ?_
  refine AllReadyH.cons (o := ⟨some 27, _, _, _, _, _⟩) rfl (fun K hK => ?_) AllReadyH.nil
  go_simp
  refine (blkroot_calls _ (hT3.below hHeld.2.2.2) (some ⟨(w6).heap.size, 0, none⟩) 3 3 [d1, d2, d3] (Nat.le_refl _) (by decide) hC).mono ?_
  rintro e w7 ⟨rfl, hbq⟩
  try go_wp2_with fail
  refine hK.out _ _ ⟨range_below hbq hHeld.1, range_below hbq hHeld.2.1, range_below hbq hHeld.2.2.1, below_then hHeld.2.2.2 hHeld.2.2.2.size hbq⟩ (fun hHeld' => ?_)
  clear hHeld
  have hHeld := hHeld'
  clear hHeld'
  clear hbq hC
  clear hK K
  try (simp only [Act.put, List.setIfInBounds_toArray, List.set_cons_zero, List.set_cons_succ])
  -- 23: law.go:19 slot 30 := Op.call { value (Operand.func 26), args := #[t28, t29], argTypes := #[25, 25] } [guarded: some (15, true)]
  refine wpAnyH_ready (rs := [23]) (by kernel_rfl) (by simp) ?_
  refine AllReadyH.cons (o := ⟨some 30, _, _, _, _, _⟩) rfl (fun K hK => ?_) AllReadyH.nil
  go_simp
  refine (pair_calls d1 d2 D1.1 D2.1 D1.2 D2.2 _ (hT3.below hHeld.2.2.2)).mono ?_
  rintro e w8 ⟨rfl, hbq⟩
  try go_wp2_with fail
  refine hK.out _ _ ⟨range_below hbq hHeld.1, range_below hbq hHeld.2.1, range_below hbq hHeld.2.2.1, below_then hHeld.2.2.2 hHeld.2.2.2.size hbq⟩ (fun hHeld' => ?_)
  clear hHeld
  have hHeld := hHeld'
  clear hHeld'
  clear hbq
  clear hK K
  try (simp only [Act.put, List.setIfInBounds_toArray, List.set_cons_zero, List.set_cons_succ])
  -- 26: law.go:19 slot 33 := Op.call { value (Operand.func 26), args := #[t31, t32], argTypes := #[25, 25] } [guarded: some (15, true)]
  refine wpAnyH_ready (rs := [26]) (by kernel_rfl) (by simp) ?_
  refine AllReadyH.cons (o := ⟨some 33, _, _, _, _, _⟩) rfl (fun K hK => ?_) AllReadyH.nil
  go_simp
  refine (pair_calls d3 d3 D3.1 D3.1 D3.2 D3.2 _ (hT3.below hHeld.2.2.2)).mono ?_
  rintro e w9 ⟨rfl, hbq⟩
  try go_wp2_with fail
  refine hK.out _ _ ⟨range_below hbq hHeld.1, range_below hbq hHeld.2.1, range_below hbq hHeld.2.2.1, below_then hHeld.2.2.2 hHeld.2.2.2.size hbq⟩ (fun hHeld' => ?_)
  clear hHeld
  have hHeld := hHeld'
  clear hHeld'
  clear hbq
  clear hK K
  try (simp only [Act.put, List.setIfInBounds_toArray, List.set_cons_zero, List.set_cons_succ])
  -- 27: law.go:19 slot 34 := Op.call { value (Operand.func 26), args := #[t30, t33], argTypes := #[25, 25] } [guarded: some (15, true)]
  refine wpAnyH_ready (rs := [27]) (by kernel_rfl) (by simp) ?_
  refine AllReadyH.cons (o := ⟨some 34, _, _, _, _, _⟩) rfl (fun K hK => ?_) AllReadyH.nil
  go_simp
  refine (pair_calls (pairF d1 d2) (pairF d3 d3) p12.1 p33.1 p12.2 p33.2 _ (hT3.below hHeld.2.2.2)).mono ?_
  rintro e w10 ⟨rfl, hbq⟩
  try go_wp2_with fail
  refine hK.out _ _ ⟨range_below hbq hHeld.1, range_below hbq hHeld.2.1, range_below hbq hHeld.2.2.1, below_then hHeld.2.2.2 hHeld.2.2.2.size hbq⟩ (fun hHeld' => ?_)
  clear hHeld
  have hHeld := hHeld'
  clear hHeld'
  clear hbq
  clear hK K
  try (simp only [Act.put, List.setIfInBounds_toArray, List.set_cons_zero, List.set_cons_succ])
  -- 28: law.go:19 slot 35 := Op.binOp BinOp.eql 25 t27 t34 25 [guarded: some (15, true)]
  refine wpAnyH_take (i := 28) (oi := ⟨some 35, _, _, _, _, _⟩) (v := ?_) rfl (by kernel_rfl) (by kernel_rfl) (by kernel_rfl) (fun _ _ _ h => h) (Or.inl ⟨by rfl, ?_⟩) (by assumption) ?_
  rotate_left 1
  · intro w hSw; (try dsimp only at hSw); go_simp; try with_reducible rfl
  simp only [Act.put, List.setIfInBounds_toArray, List.set_cons_zero, List.set_cons_succ]
  -- 29: law.go:19 slot 36 := Op.pick t22 t35 (const (Value.bool false))
  refine wpAnyH_take (i := 29) (oi := ⟨some 36, _, _, _, _, _⟩) (v := ?_) rfl (by kernel_rfl) (by kernel_rfl) (by kernel_rfl) (fun _ _ _ h => h) (Or.inl ⟨by rfl, ?_⟩) (by assumption) ?_
  rotate_left 1
  · intro w hSw; (try dsimp only at hSw); go_simp; try with_reducible rfl
  simp only [Act.put, List.setIfInBounds_toArray, List.set_cons_zero, List.set_cons_succ]
  -- 30: law.go:19 slot 0 := Op.assign t36
  refine wpAnyH_take (i := 30) (oi := ⟨some 0, _, _, _, _, _⟩) (v := ?_) rfl (by kernel_rfl) (by kernel_rfl) (by kernel_rfl) (fun _ _ _ h => h) (Or.inl ⟨by rfl, ?_⟩) (by assumption) ?_
  rotate_left 1
  · intro w hSw; (try dsimp only at hSw); go_simp; try with_reducible rfl
  simp only [Act.put, List.setIfInBounds_toArray, List.set_cons_zero]
  refine wpAnyH_done (by kernel_rfl) ?_ _
  refine NoPanic.normal ?_
  have hbf := below_then b03 b03.size hHeld.2.2.2
  clear q1 q2 q3 hHeld r1 r2 r3
  go_wp2
  go_ret
  exact ⟨rfl, hbf⟩
end Go.Proofs.YtjlkakggmfmfiaaDoor
