/- The reference's Above: the row above. -/
import Derived.Test.YtjlkakggmfmfiaaDoorPair08
import Derived.Test.YtjlkakggmfmfiaaDoorUp
set_option maxRecDepth 100000
set_option linter.unusedVariables false
namespace Go.Proofs.YtjlkakggmfmfiaaDoor
open Go Go.RowKit
set_option maxHeartbeats 2000000 in
theorem above_calls (w : World) (A : Option Addr) (n c : Nat) (ids : List (List Int)) (hnc : n ≤ c) (hn : n ≤ 1000000) (hC : HC w A n ids) :
    Calls Tryd.prog 87 #[.agg (nums .u32 tabs72).toArray, .slice A n c] w (RowPost w 24 ((n + 1) / 2) (upF ids)) := by
  have hl := hC.len
  have hd := HC.digs hC
  have u1 := Tryd.underlying31
  have u2 := Tryd.underlying24
  have it := ilen_tab
  have hb0 : Below w.heap.size w ((w.alloc (.cells (nums .u32 tabs72).toArray 31)).alloc (.cells #[] 24)) := ((Below.refl _ _).alloc (Nat.le_refl _) _).alloc (by simp) _
  have g0 : ((w.alloc (.cells (nums .u32 tabs72).toArray 31)).alloc (.cells #[] 24)).heap[w.heap.size]? = some (.cells (nums .u32 tabs72).toArray 31) := heap_alloc2_old _ _ _
  have hE : HOwn ((w.alloc (.cells (nums .u32 tabs72).toArray 31)).alloc (.cells #[] 24)) (w.heap.size + 1) 24 (.slice (some ⟨w.heap.size + 1, 0, none⟩) 0 0) 0 [] := by
    have := RK.Own.empty hashK (fun _ => False) (w := w.alloc (.cells (nums .u32 tabs72).toArray 31)) (base := w.heap.size + 1) 24 (by simp)
    simpa only [World.size_alloc] using this
  go_enter Tryd.func87, Tryd.ntmps87
  go_wp2
  go_loopw [5, 6] (fun v5 v6 wr => ∃ (k : Nat) (A1 : Option Addr) (c1 : Nat), 2 * k ≤ n + 1 ∧ v6 = .int .i64 k ∧ v5 = .slice A1 k c1 ∧ HOwn wr (w.heap.size + 1) 24 (.slice A1 k c1) k ((upF ids).take k) ∧ Below w.heap.size w wr ∧ w.heap.size + 1 ≤ wr.heap.size ∧ wr.heap[w.heap.size]? = some (.cells (nums .u32 tabs72).toArray 31)) (fun _ v _ => n + 2 - (intOf v).toNat)
  case atStart => exact ⟨0, _, 0, by omega, rfl, rfl, hE, hb0, by simp, g0⟩
  case round =>
    clear hE hb0 g0
    obtain ⟨k, A1, c1, hin, rfl, rfl, hO, hB, hws, g0⟩ := hrel
    have hk0 : (0 : Int) ≤ (k : Int) := by omega
    have hk1 : k ≤ 1000000 := by omega
    by_cases hlt : 2 * k < n
    · have hlt' : 2 * (k : Int) < (n : Int) := by omega
      have hp : pairAt ids k = pairF (dg ids (2 * k)) (dg ids (min (2 * k + 1) (n - 1))) := by unfold pairAt; rw [hl]
      have HT : Hid ((upF ids).take (k + 1) = (upF ids).take k ++ [pairF (dg ids (2 * k)) (dg ids (min (2 * k + 1) (n - 1)))]) := Lib.hid (by rw [upF_take_succ ids k (by omega), hp])
      obtain ⟨b, o, rfl, hbw, hr⟩ := HC.addr hC (by omega)
      have hx := dg_dig hd (2 * k) (by omega)
      have rx := range_below hB (hr (2 * k) hlt)
      have rt := range_block g0
      have i1 := ilen_a32 (dg ids (2 * k)) hx.1
      have hne : some b ≠ (Value.slice A1 k c1).ownBlock := fun e => by have := (hO.lt b e.symm).1; omega
      have hnt : some w.heap.size ≠ (Value.slice A1 k c1).ownBlock := fun e => by have := (hO.lt _ e.symm).1; omega
      have HLT : Hid (∀ q, (Value.slice A1 k c1).ownBlock = some q → w.heap.size + 1 ≤ q) := Lib.hid fun q hq => (hO.lt q hq).1
      have hw1 : IntKind.i64.wrap (2 * (k : Int)) = 2 * (k : Int) := IntWalk.i64_in _ (by omega)
      have hw2 : IntKind.i64.wrap (2 * (k : Int) + 1) = 2 * (k : Int) + 1 := IntWalk.i64_in _ (by omega)
      have hz1 : (0 : Int) ≤ 2 * (k : Int) := by omega
      have hz2 : (0 : Int) ≤ 2 * (k : Int) + 1 := by omega
      have hn1 : (2 * (k : Int)).toNat = 2 * k := by omega
      have hn2 : (2 * (k : Int) + 1).toNat = 2 * k + 1 := by omega
      by_cases hj : 2 * k + 1 < n
      · have hj' : 2 * (k : Int) + 1 < (n : Int) := by omega
        have hm : min (2 * k + 1) (n - 1) = 2 * k + 1 := by omega
        rw [hm] at HT
        have hy := dg_dig hd (2 * k + 1) (by omega)
        have ry := range_below hB (hr (2 * k + 1) hj)
        have i2 := ilen_a32 (dg ids (2 * k + 1)) hy.1
        have HL := Lib.hid hl
        have HR := Lib.hid hr
        clear hl hr hp hm
        go_upto_region 6 with fail
        refine wp_region_noPanic ?_
        refine wp_region_held_drew (S := fun w' => w'.rangeAt w.heap.size 0 (nums .u32 tabs72) ∧ w'.rangeAt b (o + 2 * k * 32) (nums .u8 (dg ids (2 * k))) ∧ w'.rangeAt b (o + (2 * k + 1) * 32) (nums .u8 (dg ids (2 * k + 1))) ∧ wr.grownBy w' (Value.slice A1 k c1).ownBlock) (by kernel_rfl) ⟨rt, rx, ry, grown_of_below (Below.drew (Below.refl _ _)) _⟩ (fun hHeld => ?_)
        -- 0: ref.go:18 slot 21 := Op.move t5
        refine wpAnyH_take (i := 0) (oi := ⟨some 21, _, _, _, _, _⟩) (v := ?_) rfl (by kernel_rfl) (by kernel_rfl) (by kernel_rfl) (fun _ _ _ h => h) (Or.inl ⟨by rfl, ?_⟩) (by assumption) ?_
        rotate_left 1
        · intro w hSw; (try dsimp only at hSw); go_simp; try with_reducible rfl
        simp only [Act.put, List.setIfInBounds_toArray, List.set_cons_zero, List.set_cons_succ]
        -- 1: ref.go:18 slot 22 := Op.load 31 t2
        refine wpAnyH_take (i := 1) (oi := ⟨some 22, _, _, _, _, _⟩) rfl (by kernel_rfl) (by kernel_rfl) (by kernel_rfl) (fun _ _ _ h => h) (yieldsIf_load_mid (by rfl) _ _ rfl _ _ rfl (nums .u32 tabs72) _ (fun _ h => h.1) u1 rfl it) (by assumption) ?_
        simp only [Act.put, List.setIfInBounds_toArray, List.set_cons_zero, List.set_cons_succ]
        -- 2: ref.go:18 slot 23 := Op.move t1
        refine wpAnyH_take (i := 2) (oi := ⟨some 23, _, _, _, _, _⟩) (v := ?_) rfl (by kernel_rfl) (by kernel_rfl) (by kernel_rfl) (fun _ _ _ h => h) (Or.inl ⟨by rfl, ?_⟩) (by assumption) ?_
        rotate_left 1
        · intro w hSw; (try dsimp only at hSw); go_simp; try with_reducible rfl
        simp only [Act.put, List.setIfInBounds_toArray, List.set_cons_zero, List.set_cons_succ]
        -- 3: ref.go:18 slot 24 := Op.move t6
        refine wpAnyH_take (i := 3) (oi := ⟨some 24, _, _, _, _, _⟩) (v := ?_) rfl (by kernel_rfl) (by kernel_rfl) (by kernel_rfl) (fun _ _ _ h => h) (Or.inl ⟨by rfl, ?_⟩) (by assumption) ?_
        rotate_left 1
        · intro w hSw; (try dsimp only at hSw); go_simp; try with_reducible rfl
        simp only [Act.put, List.setIfInBounds_toArray, List.set_cons_zero, List.set_cons_succ]
        -- 4: ref.go:18 slot 25 := Op.binOp BinOp.mul 3 (const (2:i64)) t24 3
        refine wpAnyH_take (i := 4) (oi := ⟨some 25, _, _, _, _, _⟩) (v := ?_) rfl (by kernel_rfl) (by kernel_rfl) (by kernel_rfl) (fun _ _ _ h => h) (Or.inl ⟨by rfl, ?_⟩) (by assumption) ?_
        rotate_left 1
        · intro w hSw; (try dsimp only at hSw); go_simp; try with_reducible rfl
        simp only [Act.put, List.setIfInBounds_toArray, List.set_cons_zero, List.set_cons_succ]
        -- 5: ref.go:18 slot 26 := Op.indexAddr 41 t23 t25
        refine wpAnyH_take (i := 5) (oi := ⟨some 26, _, _, _, _, _⟩) (v := ?_) rfl (by kernel_rfl) (by kernel_rfl) (by kernel_rfl) (fun _ _ _ h => h) (Or.inl ⟨by rfl, ?_⟩) (by assumption) ?_
        rotate_left 1
        · intro w hSw; (try dsimp only at hSw); go_simp; try with_reducible rfl
        simp only [Act.put, List.setIfInBounds_toArray, List.set_cons_zero, List.set_cons_succ]
        -- 6: ref.go:18 slot 27 := Op.load 24 t26
        refine wpAnyH_take (i := 6) (oi := ⟨some 27, _, _, _, _, _⟩) rfl (by kernel_rfl) (by kernel_rfl) (by kernel_rfl) (fun _ _ _ h => h) (yieldsIf_load_mid (by rfl) _ _ rfl _ _ rfl (nums .u8 (dg ids (2 * k))) _ (fun _ h => h.2.1) u2 rfl i1) (by assumption) ?_
        simp only [Act.put, List.setIfInBounds_toArray, List.set_cons_zero, List.set_cons_succ]
        -- 7: ref.go:18 slot 28 := Op.move t1
        refine wpAnyH_take (i := 7) (oi := ⟨some 28, _, _, _, _, _⟩) (v := ?_) rfl (by kernel_rfl) (by kernel_rfl) (by kernel_rfl) (fun _ _ _ h => h) (Or.inl ⟨by rfl, ?_⟩) (by assumption) ?_
        rotate_left 1
        · intro w hSw; (try dsimp only at hSw); go_simp; try with_reducible rfl
        simp only [Act.put, List.setIfInBounds_toArray, List.set_cons_zero, List.set_cons_succ]
        -- 8: ref.go:18 slot 29 := Op.move t6
        refine wpAnyH_take (i := 8) (oi := ⟨some 29, _, _, _, _, _⟩) (v := ?_) rfl (by kernel_rfl) (by kernel_rfl) (by kernel_rfl) (fun _ _ _ h => h) (Or.inl ⟨by rfl, ?_⟩) (by assumption) ?_
        rotate_left 1
        · intro w hSw; (try dsimp only at hSw); go_simp; try with_reducible rfl
        simp only [Act.put, List.setIfInBounds_toArray, List.set_cons_zero, List.set_cons_succ]
        -- 9: ref.go:18 slot 30 := Op.binOp BinOp.mul 3 (const (2:i64)) t29 3
        refine wpAnyH_take (i := 9) (oi := ⟨some 30, _, _, _, _, _⟩) (v := ?_) rfl (by kernel_rfl) (by kernel_rfl) (by kernel_rfl) (fun _ _ _ h => h) (Or.inl ⟨by rfl, ?_⟩) (by assumption) ?_
        rotate_left 1
        · intro w hSw; (try dsimp only at hSw); go_simp; try with_reducible rfl
        simp only [Act.put, List.setIfInBounds_toArray, List.set_cons_zero, List.set_cons_succ]
        -- 10: ref.go:18 slot 31 := Op.binOp BinOp.add 3 t30 (const (1:i64)) 3
        refine wpAnyH_take (i := 10) (oi := ⟨some 31, _, _, _, _, _⟩) (v := ?_) rfl (by kernel_rfl) (by kernel_rfl) (by kernel_rfl) (fun _ _ _ h => h) (Or.inl ⟨by rfl, ?_⟩) (by assumption) ?_
        rotate_left 1
        · intro w hSw; (try dsimp only at hSw); go_simp; try with_reducible rfl
        simp only [Act.put, List.setIfInBounds_toArray, List.set_cons_zero, List.set_cons_succ]
        -- 11: ref.go:18 slot 32 := Op.indexAddr 41 t28 t31
        refine wpAnyH_take (i := 11) (oi := ⟨some 32, _, _, _, _, _⟩) (v := ?_) rfl (by kernel_rfl) (by kernel_rfl) (by kernel_rfl) (fun _ _ _ h => h) (Or.inl ⟨by rfl, ?_⟩) (by assumption) ?_
        rotate_left 1
        · intro w hSw; (try dsimp only at hSw); go_simp; try with_reducible rfl
        simp only [Act.put, List.setIfInBounds_toArray, List.set_cons_zero, List.set_cons_succ]
        -- 12: ref.go:18 slot 33 := Op.load 24 t32
        refine wpAnyH_take (i := 12) (oi := ⟨some 33, _, _, _, _, _⟩) rfl (by kernel_rfl) (by kernel_rfl) (by kernel_rfl) (fun _ _ _ h => h) (yieldsIf_load_mid (by rfl) _ _ rfl _ _ rfl (nums .u8 (dg ids (2 * k + 1))) _ (fun _ h => h.2.2.1) u2 rfl i2) (by assumption) ?_
        simp only [Act.put, List.setIfInBounds_toArray, List.set_cons_zero, List.set_cons_succ]
        -- 13: ref.go:18 slot 34 := Op.call { value (Operand.func 92), args := #[t22, t27, t33], argTypes := #[31, 24, 24] }
        refine wpAnyH_ready (rs := [13]) (by kernel_rfl) (by simp) ?_
        refine AllReadyH.cons (o := ⟨some 34, _, _, _, _, _⟩) rfl (fun K hK => ?_) AllReadyH.nil
        go_simp
        refine (pair08_calls (dg ids (2 * k)) (dg ids (2 * k + 1)) hx hy _).mono ?_
        rintro e wq ⟨rfl, hbq⟩
        try go_wp2_with fail
        have hOq := RK.Own.below (RK.Own.below hO (Below.drew (Below.refl _ _))) hbq
        refine hK.out _ _ ⟨range_below hbq hHeld.1, range_below hbq hHeld.2.1, range_below hbq hHeld.2.2.1, grown_trans hHeld.2.2.2 (grown_of_below hbq _)⟩ (fun hHeld' => ?_)
        clear hHeld
        have hHeld := hHeld'
        clear hHeld'
        clear hO
        clear hK K
        try (simp only [Act.put, List.setIfInBounds_toArray, List.set_cons_zero, List.set_cons_succ])
        -- 14: ref.go:18 slot 35 := Op.buildSlice 41 1 #[(0, t34)]
        refine wpAnyH_ready (rs := [14]) (by kernel_rfl) (by simp) ?_
        refine AllReadyH.cons (o := ⟨some 35, _, _, _, _, _⟩) rfl (fun K hK => ?_) AllReadyH.nil
        refine step_buildH (by rfl) 41 24 1 _ (by rfl) Tryd.underlying41 zinfo_a32 [pairF (dg ids (2 * k)) (dg ids (2 * k + 1))] (by rfl) (Digs.one (dig_pair _ _)) rfl (by decide) (by decide) (nums .u8 (pairF (dg ids (2 * k)) (dg ids (2 * k + 1)))) (flatH_one _) ?_
        refine hK.out _ _ ⟨World.rangeAt_alloc hHeld.1 _, World.rangeAt_alloc hHeld.2.1 _, World.rangeAt_alloc hHeld.2.2.1 _, grown_trans hHeld.2.2.2 (grown_of_below ((Below.refl _ _).alloc (Nat.le_refl _) _) _)⟩ (fun hHeld' => ?_)
        clear hHeld
        have hHeld := hHeld'
        clear hHeld'
        have hOb := RK.Own.alloc hOq (.cells (nums .u8 (pairF (dg ids (2 * k)) (dg ids (2 * k + 1)))).toArray 24)
        have hgb := heap_alloc_new wq (.cells (nums .u8 (pairF (dg ids (2 * k)) (dg ids (2 * k + 1)))).toArray 24)
        clear hK K
        try (simp only [Act.put, List.setIfInBounds_toArray, List.set_cons_zero, List.set_cons_succ])
        -- 15: ref.go:18 slot 36 := Op.call { builtin append, args := #[t21, t35], argTypes := #[41, 41] }
        refine wpAnyH_ready (rs := [15]) (by kernel_rfl) (by simp) ?_
        refine AllReadyH.cons (o := ⟨some 36, _, _, _, _, _⟩) rfl (fun K hK => ?_) AllReadyH.nil
        refine step_appH (by rfl) (.tmp 21) (.tmp 35) 41 24 (by rfl) Tryd.underlying41 zinfo_a32 (w.heap.size + 1) _ k ((upF ids).take k) (by rfl) hOb wq.heap.size 1 (pairF (dg ids (2 * k)) (dg ids (2 * k + 1))) (by rfl) hgb (dig_pair _ _) ((upF ids).take (k + 1)) HT.out.symm hk1 (by have := hbq.size; simp at this ⊢; omega) ?_
        intro A2 c2 w2 hO2 hg2 hat2
        refine hK.out _ _ ⟨range_grown hg2 hHeld.1 hnt, range_grown hg2 hHeld.2.1 hne, range_grown hg2 hHeld.2.2.1 hne, grown_trans hHeld.2.2.2 hg2⟩ (fun hHeld' => ?_)
        clear hHeld
        have hHeld := hHeld'
        clear hHeld'
        clear hOb hgb hOq
        clear hK K
        try (simp only [Act.put, List.setIfInBounds_toArray, List.set_cons_zero, List.set_cons_succ])
        -- 16: ref.go:18 slot 5 := Op.assign t36
        refine wpAnyH_take (i := 16) (oi := ⟨some 5, _, _, _, _, _⟩) (v := ?_) rfl (by kernel_rfl) (by kernel_rfl) (by kernel_rfl) (fun _ _ _ h => h) (Or.inl ⟨by rfl, ?_⟩) (by assumption) ?_
        rotate_left 1
        · intro w hSw; (try dsimp only at hSw); go_simp; try with_reducible rfl
        simp only [Act.put, List.setIfInBounds_toArray, List.set_cons_zero, List.set_cons_succ]
        refine wpAnyH_done (by kernel_rfl) ?_ _
        refine NoPanic.normal ?_
        have hB2 : Below w.heap.size w w2 := hB.grown hHeld.2.2.2 hB.size (fun q hq => by have := HLT.out q hq; omega)
        have g02 := heap_grown hHeld.2.2.2 g0 hnt
        have hs2 : w.heap.size + 1 ≤ w2.heap.size := by have := (hHeld.2.2.2).size; omega
        clear hHeld hB hg2 hat2 rx rt ry g0 hw1 hw2 hn1 hn2
        go_wp2
        go_roundw
        case rel => exact ⟨k + 1, A2, c2, by omega, by go_num, rfl, hO2, hB2, hs2, g02⟩
        case measure => simp [intOf]; omega
      · have hj' : ¬ 2 * (k : Int) + 1 < (n : Int) := by omega
        have hm : min (2 * k + 1) (n - 1) = 2 * k := by omega
        rw [hm] at HT
        have HL := Lib.hid hl
        have HR := Lib.hid hr
        clear hl hr hp hm
        go_upto_region 7 with fail
        refine wp_region_noPanic ?_
        refine wp_region_held_drew (S := fun w' => w'.rangeAt w.heap.size 0 (nums .u32 tabs72) ∧ w'.rangeAt b (o + 2 * k * 32) (nums .u8 (dg ids (2 * k))) ∧ wr.grownBy w' (Value.slice A1 k c1).ownBlock) (by kernel_rfl) ⟨rt, rx, grown_of_below (Below.drew (Below.refl _ _)) _⟩ (fun hHeld => ?_)
        -- 0: ref.go:20 slot 37 := Op.move t5
        refine wpAnyH_take (i := 0) (oi := ⟨some 37, _, _, _, _, _⟩) (v := ?_) rfl (by kernel_rfl) (by kernel_rfl) (by kernel_rfl) (fun _ _ _ h => h) (Or.inl ⟨by rfl, ?_⟩) (by assumption) ?_
        rotate_left 1
        · intro w hSw; (try dsimp only at hSw); go_simp; try with_reducible rfl
        simp only [Act.put, List.setIfInBounds_toArray, List.set_cons_zero, List.set_cons_succ]
        -- 1: ref.go:20 slot 38 := Op.load 31 t2
        refine wpAnyH_take (i := 1) (oi := ⟨some 38, _, _, _, _, _⟩) rfl (by kernel_rfl) (by kernel_rfl) (by kernel_rfl) (fun _ _ _ h => h) (yieldsIf_load_mid (by rfl) _ _ rfl _ _ rfl (nums .u32 tabs72) _ (fun _ h => h.1) u1 rfl it) (by assumption) ?_
        simp only [Act.put, List.setIfInBounds_toArray, List.set_cons_zero, List.set_cons_succ]
        -- 2: ref.go:20 slot 39 := Op.move t1
        refine wpAnyH_take (i := 2) (oi := ⟨some 39, _, _, _, _, _⟩) (v := ?_) rfl (by kernel_rfl) (by kernel_rfl) (by kernel_rfl) (fun _ _ _ h => h) (Or.inl ⟨by rfl, ?_⟩) (by assumption) ?_
        rotate_left 1
        · intro w hSw; (try dsimp only at hSw); go_simp; try with_reducible rfl
        simp only [Act.put, List.setIfInBounds_toArray, List.set_cons_zero, List.set_cons_succ]
        -- 3: ref.go:20 slot 40 := Op.move t6
        refine wpAnyH_take (i := 3) (oi := ⟨some 40, _, _, _, _, _⟩) (v := ?_) rfl (by kernel_rfl) (by kernel_rfl) (by kernel_rfl) (fun _ _ _ h => h) (Or.inl ⟨by rfl, ?_⟩) (by assumption) ?_
        rotate_left 1
        · intro w hSw; (try dsimp only at hSw); go_simp; try with_reducible rfl
        simp only [Act.put, List.setIfInBounds_toArray, List.set_cons_zero, List.set_cons_succ]
        -- 4: ref.go:20 slot 41 := Op.binOp BinOp.mul 3 (const (2:i64)) t40 3
        refine wpAnyH_take (i := 4) (oi := ⟨some 41, _, _, _, _, _⟩) (v := ?_) rfl (by kernel_rfl) (by kernel_rfl) (by kernel_rfl) (fun _ _ _ h => h) (Or.inl ⟨by rfl, ?_⟩) (by assumption) ?_
        rotate_left 1
        · intro w hSw; (try dsimp only at hSw); go_simp; try with_reducible rfl
        simp only [Act.put, List.setIfInBounds_toArray, List.set_cons_zero, List.set_cons_succ]
        -- 5: ref.go:20 slot 42 := Op.indexAddr 41 t39 t41
        refine wpAnyH_take (i := 5) (oi := ⟨some 42, _, _, _, _, _⟩) (v := ?_) rfl (by kernel_rfl) (by kernel_rfl) (by kernel_rfl) (fun _ _ _ h => h) (Or.inl ⟨by rfl, ?_⟩) (by assumption) ?_
        rotate_left 1
        · intro w hSw; (try dsimp only at hSw); go_simp; try with_reducible rfl
        simp only [Act.put, List.setIfInBounds_toArray, List.set_cons_zero, List.set_cons_succ]
        -- 6: ref.go:20 slot 43 := Op.load 24 t42
        refine wpAnyH_take (i := 6) (oi := ⟨some 43, _, _, _, _, _⟩) rfl (by kernel_rfl) (by kernel_rfl) (by kernel_rfl) (fun _ _ _ h => h) (yieldsIf_load_mid (by rfl) _ _ rfl _ _ rfl (nums .u8 (dg ids (2 * k))) _ (fun _ h => h.2.1) u2 rfl i1) (by assumption) ?_
        simp only [Act.put, List.setIfInBounds_toArray, List.set_cons_zero, List.set_cons_succ]
        -- 7: ref.go:20 slot 44 := Op.move t1
        refine wpAnyH_take (i := 7) (oi := ⟨some 44, _, _, _, _, _⟩) (v := ?_) rfl (by kernel_rfl) (by kernel_rfl) (by kernel_rfl) (fun _ _ _ h => h) (Or.inl ⟨by rfl, ?_⟩) (by assumption) ?_
        rotate_left 1
        · intro w hSw; (try dsimp only at hSw); go_simp; try with_reducible rfl
        simp only [Act.put, List.setIfInBounds_toArray, List.set_cons_zero, List.set_cons_succ]
        -- 8: ref.go:20 slot 45 := Op.move t6
        refine wpAnyH_take (i := 8) (oi := ⟨some 45, _, _, _, _, _⟩) (v := ?_) rfl (by kernel_rfl) (by kernel_rfl) (by kernel_rfl) (fun _ _ _ h => h) (Or.inl ⟨by rfl, ?_⟩) (by assumption) ?_
        rotate_left 1
        · intro w hSw; (try dsimp only at hSw); go_simp; try with_reducible rfl
        simp only [Act.put, List.setIfInBounds_toArray, List.set_cons_zero, List.set_cons_succ]
        -- 9: ref.go:20 slot 46 := Op.binOp BinOp.mul 3 (const (2:i64)) t45 3
        refine wpAnyH_take (i := 9) (oi := ⟨some 46, _, _, _, _, _⟩) (v := ?_) rfl (by kernel_rfl) (by kernel_rfl) (by kernel_rfl) (fun _ _ _ h => h) (Or.inl ⟨by rfl, ?_⟩) (by assumption) ?_
        rotate_left 1
        · intro w hSw; (try dsimp only at hSw); go_simp; try with_reducible rfl
        simp only [Act.put, List.setIfInBounds_toArray, List.set_cons_zero, List.set_cons_succ]
        -- 10: ref.go:20 slot 47 := Op.indexAddr 41 t44 t46
        refine wpAnyH_take (i := 10) (oi := ⟨some 47, _, _, _, _, _⟩) (v := ?_) rfl (by kernel_rfl) (by kernel_rfl) (by kernel_rfl) (fun _ _ _ h => h) (Or.inl ⟨by rfl, ?_⟩) (by assumption) ?_
        rotate_left 1
        · intro w hSw; (try dsimp only at hSw); go_simp; try with_reducible rfl
        simp only [Act.put, List.setIfInBounds_toArray, List.set_cons_zero, List.set_cons_succ]
        -- 11: ref.go:20 slot 48 := Op.load 24 t47
        refine wpAnyH_take (i := 11) (oi := ⟨some 48, _, _, _, _, _⟩) rfl (by kernel_rfl) (by kernel_rfl) (by kernel_rfl) (fun _ _ _ h => h) (yieldsIf_load_mid (by rfl) _ _ rfl _ _ rfl (nums .u8 (dg ids (2 * k))) _ (fun _ h => h.2.1) u2 rfl i1) (by assumption) ?_
        simp only [Act.put, List.setIfInBounds_toArray, List.set_cons_zero, List.set_cons_succ]
        -- 12: ref.go:20 slot 49 := Op.call { value (Operand.func 92), args := #[t38, t43, t48], argTypes := #[31, 24, 24] }
        refine wpAnyH_ready (rs := [12]) (by kernel_rfl) (by simp) ?_
        refine AllReadyH.cons (o := ⟨some 49, _, _, _, _, _⟩) rfl (fun K hK => ?_) AllReadyH.nil
        go_simp
        refine (pair08_calls (dg ids (2 * k)) (dg ids (2 * k)) hx hx _).mono ?_
        rintro e wq ⟨rfl, hbq⟩
        try go_wp2_with fail
        have hOq := RK.Own.below (RK.Own.below hO (Below.drew (Below.refl _ _))) hbq
        refine hK.out _ _ ⟨range_below hbq hHeld.1, range_below hbq hHeld.2.1, grown_trans hHeld.2.2 (grown_of_below hbq _)⟩ (fun hHeld' => ?_)
        clear hHeld
        have hHeld := hHeld'
        clear hHeld'
        clear hO
        clear hK K
        try (simp only [Act.put, List.setIfInBounds_toArray, List.set_cons_zero, List.set_cons_succ])
        -- 13: ref.go:20 slot 50 := Op.buildSlice 41 1 #[(0, t49)]
        refine wpAnyH_ready (rs := [13]) (by kernel_rfl) (by simp) ?_
        refine AllReadyH.cons (o := ⟨some 50, _, _, _, _, _⟩) rfl (fun K hK => ?_) AllReadyH.nil
        refine step_buildH (by rfl) 41 24 1 _ (by rfl) Tryd.underlying41 zinfo_a32 [pairF (dg ids (2 * k)) (dg ids (2 * k))] (by rfl) (Digs.one (dig_pair _ _)) rfl (by decide) (by decide) (nums .u8 (pairF (dg ids (2 * k)) (dg ids (2 * k)))) (flatH_one _) ?_
        refine hK.out _ _ ⟨World.rangeAt_alloc hHeld.1 _, World.rangeAt_alloc hHeld.2.1 _, grown_trans hHeld.2.2 (grown_of_below ((Below.refl _ _).alloc (Nat.le_refl _) _) _)⟩ (fun hHeld' => ?_)
        clear hHeld
        have hHeld := hHeld'
        clear hHeld'
        have hOb := RK.Own.alloc hOq (.cells (nums .u8 (pairF (dg ids (2 * k)) (dg ids (2 * k)))).toArray 24)
        have hgb := heap_alloc_new wq (.cells (nums .u8 (pairF (dg ids (2 * k)) (dg ids (2 * k)))).toArray 24)
        clear hK K
        try (simp only [Act.put, List.setIfInBounds_toArray, List.set_cons_zero, List.set_cons_succ])
        -- 14: ref.go:20 slot 51 := Op.call { builtin append, args := #[t37, t50], argTypes := #[41, 41] }
        refine wpAnyH_ready (rs := [14]) (by kernel_rfl) (by simp) ?_
        refine AllReadyH.cons (o := ⟨some 51, _, _, _, _, _⟩) rfl (fun K hK => ?_) AllReadyH.nil
        refine step_appH (by rfl) (.tmp 37) (.tmp 50) 41 24 (by rfl) Tryd.underlying41 zinfo_a32 (w.heap.size + 1) _ k ((upF ids).take k) (by rfl) hOb wq.heap.size 1 (pairF (dg ids (2 * k)) (dg ids (2 * k))) (by rfl) hgb (dig_pair _ _) ((upF ids).take (k + 1)) HT.out.symm hk1 (by have := hbq.size; simp at this ⊢; omega) ?_
        intro A2 c2 w2 hO2 hg2 hat2
        refine hK.out _ _ ⟨range_grown hg2 hHeld.1 hnt, range_grown hg2 hHeld.2.1 hne, grown_trans hHeld.2.2 hg2⟩ (fun hHeld' => ?_)
        clear hHeld
        have hHeld := hHeld'
        clear hHeld'
        clear hOb hgb hOq
        clear hK K
        try (simp only [Act.put, List.setIfInBounds_toArray, List.set_cons_zero, List.set_cons_succ])
        -- 15: ref.go:20 slot 5 := Op.assign t51
        refine wpAnyH_take (i := 15) (oi := ⟨some 5, _, _, _, _, _⟩) (v := ?_) rfl (by kernel_rfl) (by kernel_rfl) (by kernel_rfl) (fun _ _ _ h => h) (Or.inl ⟨by rfl, ?_⟩) (by assumption) ?_
        rotate_left 1
        · intro w hSw; (try dsimp only at hSw); go_simp; try with_reducible rfl
        simp only [Act.put, List.setIfInBounds_toArray, List.set_cons_zero, List.set_cons_succ]
        refine wpAnyH_done (by kernel_rfl) ?_ _
        refine NoPanic.normal ?_
        have hB2 : Below w.heap.size w w2 := hB.grown hHeld.2.2 hB.size (fun q hq => by have := HLT.out q hq; omega)
        have g02 := heap_grown hHeld.2.2 g0 hnt
        have hs2 : w.heap.size + 1 ≤ w2.heap.size := by have := (hHeld.2.2).size; omega
        clear hHeld hB hg2 hat2 rx rt g0 hw1 hw2 hn1 hn2
        go_wp2
        go_roundw
        case rel => exact ⟨k + 1, A2, c2, by omega, by go_num, rfl, hO2, hB2, hs2, g02⟩
        case measure => simp [intOf]; omega
    · have hlt' : ¬ 2 * (k : Int) < (n : Int) := by omega
      have hm : (n + 1) / 2 = k := by omega
      have ha : (upF ids).take k = upF ids := upF_take_all ids k (by omega)
      rw [ha] at hO
      have HM := Lib.hid hm
      clear hm ha hl
      go_wp2
      go_ret
      rw [HM.out]
      exact ⟨A1, c1, rfl, RK.Own.base_ hO (by omega), hB⟩
end Go.Proofs.YtjlkakggmfmfiaaDoor
