/- block.up: the row above. | block.Root: the root of digests. -/
import Derived.Test.YtclkgflficlmiaaDoorRow
import Derived.Deep.CutBlock
import Derived.IntWalk
/-! ## Up -/
section
set_option maxRecDepth 100000
set_option linter.unusedVariables false
namespace Go.Proofs.YtclkgflficlmiaaDoor
open Go Go.RowKit
/-- A row of the call's own is handed back. -/
def RowPost (w : World) (t : TypeId) (m : Nat) (ids : List (List Int)) (e : Ending) (w' : World) : Prop := ∃ A c, e = .returned (.slice A m c) ∧ HOwn w' w.heap.size t (.slice A m c) m ids ∧ Below w.heap.size w w'
set_option maxHeartbeats 2000000 in
theorem up_calls (w : World) (hT : Tabs w) (A : Option Addr) (n c : Nat) (ids : List (List Int)) (hnc : n ≤ c) (hn : n ≤ 1000000) (hC : HC w A n ids) :
    Calls Tryd.prog 57 #[.slice A n c] w (RowPost w 24 ((n + 1) / 2) (upF ids)) := by
  have hl := hC.len
  have hd := HC.digs hC
  have u2 := Tryd.underlying24
  go_enter Tryd.func57, Tryd.ntmps57
  go_wp2
  go_loopw [3, 4] (fun v3 v4 wr => ∃ (i k : Nat) (A1 : Option Addr) (c1 : Nat), i = 2 * k ∧ i ≤ n + 1 ∧ v4 = .int .i64 i ∧ v3 = .slice A1 k c1 ∧ HOwn wr w.heap.size 24 (.slice A1 k c1) k ((upF ids).take k) ∧ Below w.heap.size w wr) (fun _ v _ => n + 2 - (intOf v).toNat)
  case atStart => exact ⟨0, 0, none, 0, rfl, by omega, rfl, rfl, RK.Own.nil _ _ _ _ _, Below.refl _ _⟩
  case round =>
    obtain ⟨i, k, A1, c1, hik, hin, rfl, rfl, hO, hB⟩ := hrel
    by_cases hlt : i < n
    · have hlt' : (i : Int) < (n : Int) := by omega
      have hi0 : (0 : Int) ≤ (i : Int) := by omega
      have hTr := hT.below hB
      obtain ⟨j, hj⟩ : ∃ j, j = min (i + 1) (n - 1) := ⟨_, rfl⟩
      have hjn : j < n := by omega
      have hjn' : (j : Int) < (n : Int) := by omega
      have hj0 : (0 : Int) ≤ (j : Int) := by omega
      have hx := dg_dig hd i (by omega)
      have hy := dg_dig hd j (by omega)
      have hp : pairAt ids k = pairF (dg ids i) (dg ids j) := by unfold pairAt; rw [← hik, hl, ← hj]
      obtain ⟨b, o, rfl, hbw, hr⟩ := HC.addr hC (by omega)
      have rx := range_below hB (hr i hlt)
      have ry := range_below hB (hr j hjn)
      have i1 := ilen_hash (dg ids i) hx.1
      have i2 := ilen_hash (dg ids j) hy.1
      have hw1 : IntKind.i64.wrap ((i : Int) + 1) = (i : Int) + 1 := IntWalk.i64_in _ (by omega)
      have hw2 : IntKind.i64.wrap ((n : Int) - 1) = (n : Int) - 1 := IntWalk.i64_in _ (by omega)
      have hmin : min ((i : Int) + 1) ((n : Int) - 1) = (j : Int) := by omega
      have HLT : Hid (∀ q, (Value.slice A1 k c1).ownBlock = some q → w.heap.size ≤ q) := Lib.hid fun q hq => (hO.lt q hq).1
      have hne : some b ≠ (Value.slice A1 k c1).ownBlock := fun e => by have := (hO.lt b e.symm).1; omega
      have ht : (upF ids).take (k + 1) = (upF ids).take k ++ [pairF (dg ids i) (dg ids j)] := by rw [upF_take_succ ids k (by omega), hp]
      have HT := Lib.hid ht
      clear ht
      have hk1 : k ≤ 1000000 := by omega
      have hws := hB.size
      have HJ := Lib.hid hj
      have HIK := Lib.hid hik
      have HP := Lib.hid hp
      have HR := Lib.hid hr
      have HL := Lib.hid hl
      clear hj hik hp hr hl
      go_upto_region 5 with fail
      refine wp_region_noPanic ?_
      refine wp_region_held_drew (S := fun w' => w'.rangeAt b (o + i * 32) (nums .u8 (dg ids i)) ∧ w'.rangeAt b (o + j * 32) (nums .u8 (dg ids j)) ∧ wr.grownBy w' (Value.slice A1 k c1).ownBlock) (by kernel_rfl) ⟨rx, ry, grown_of_below (Below.drew (Below.refl _ _)) _⟩ (fun hHeld => ?_)
      -- 0: block.go:55 slot 11 := Op.move t3
      refine wpAnyH_take (i := 0) (oi := ⟨some 11, _, _, _, _, _⟩) (v := ?_) rfl (by kernel_rfl) (by kernel_rfl) (by kernel_rfl) (fun _ _ _ h => h) (Or.inl ⟨by rfl, ?_⟩) (by assumption) ?_
      rotate_left 1
      · intro w hSw; (try dsimp only at hSw); go_simp; try with_reducible rfl
      simp only [Act.put, List.setIfInBounds_toArray, List.set_cons_zero, List.set_cons_succ]
      -- 1: block.go:55 slot 12 := Op.move t0
      refine wpAnyH_take (i := 1) (oi := ⟨some 12, _, _, _, _, _⟩) (v := ?_) rfl (by kernel_rfl) (by kernel_rfl) (by kernel_rfl) (fun _ _ _ h => h) (Or.inl ⟨by rfl, ?_⟩) (by assumption) ?_
      rotate_left 1
      · intro w hSw; (try dsimp only at hSw); go_simp; try with_reducible rfl
      simp only [Act.put, List.setIfInBounds_toArray, List.set_cons_zero, List.set_cons_succ]
      -- 2: block.go:55 slot 13 := Op.move t4
      refine wpAnyH_take (i := 2) (oi := ⟨some 13, _, _, _, _, _⟩) (v := ?_) rfl (by kernel_rfl) (by kernel_rfl) (by kernel_rfl) (fun _ _ _ h => h) (Or.inl ⟨by rfl, ?_⟩) (by assumption) ?_
      rotate_left 1
      · intro w hSw; (try dsimp only at hSw); go_simp; try with_reducible rfl
      simp only [Act.put, List.setIfInBounds_toArray, List.set_cons_zero, List.set_cons_succ]
      -- 3: block.go:55 slot 14 := Op.indexAddr 38 t12 t13
      refine wpAnyH_take (i := 3) (oi := ⟨some 14, _, _, _, _, _⟩) (v := ?_) rfl (by kernel_rfl) (by kernel_rfl) (by kernel_rfl) (fun _ _ _ h => h) (Or.inl ⟨by rfl, ?_⟩) (by assumption) ?_
      rotate_left 1
      · intro w hSw; (try dsimp only at hSw); go_simp; try with_reducible rfl
      simp only [Act.put, List.setIfInBounds_toArray, List.set_cons_zero, List.set_cons_succ]
      -- 4: block.go:55 slot 15 := Op.load 25 t14
      refine wpAnyH_take (i := 4) (oi := ⟨some 15, _, _, _, _, _⟩) rfl (by kernel_rfl) (by kernel_rfl) (by kernel_rfl) (fun _ _ _ h => h) (yieldsIf_load_mid (by rfl) _ _ rfl _ _ rfl (nums .u8 (dg ids i)) _ (fun _ h => h.1) u2 rfl i1) (by assumption) ?_
      simp only [Act.put, List.setIfInBounds_toArray, List.set_cons_zero, List.set_cons_succ]
      -- 5: block.go:55 slot 16 := Op.move t0
      refine wpAnyH_take (i := 5) (oi := ⟨some 16, _, _, _, _, _⟩) (v := ?_) rfl (by kernel_rfl) (by kernel_rfl) (by kernel_rfl) (fun _ _ _ h => h) (Or.inl ⟨by rfl, ?_⟩) (by assumption) ?_
      rotate_left 1
      · intro w hSw; (try dsimp only at hSw); go_simp; try with_reducible rfl
      simp only [Act.put, List.setIfInBounds_toArray, List.set_cons_zero, List.set_cons_succ]
      -- 6: block.go:55 slot 17 := Op.move t4
      refine wpAnyH_take (i := 6) (oi := ⟨some 17, _, _, _, _, _⟩) (v := ?_) rfl (by kernel_rfl) (by kernel_rfl) (by kernel_rfl) (fun _ _ _ h => h) (Or.inl ⟨by rfl, ?_⟩) (by assumption) ?_
      rotate_left 1
      · intro w hSw; (try dsimp only at hSw); go_simp; try with_reducible rfl
      simp only [Act.put, List.setIfInBounds_toArray, List.set_cons_zero, List.set_cons_succ]
      -- 7: block.go:55 slot 18 := Op.binOp BinOp.add 3 t17 (const (1:i64)) 3
      refine wpAnyH_take (i := 7) (oi := ⟨some 18, _, _, _, _, _⟩) (v := ?_) rfl (by kernel_rfl) (by kernel_rfl) (by kernel_rfl) (fun _ _ _ h => h) (Or.inl ⟨by rfl, ?_⟩) (by assumption) ?_
      rotate_left 1
      · intro w hSw; (try dsimp only at hSw); go_simp; try with_reducible rfl
      simp only [Act.put, List.setIfInBounds_toArray, List.set_cons_zero, List.set_cons_succ]
      -- 8: block.go:55 slot 19 := Op.move t0
      refine wpAnyH_take (i := 8) (oi := ⟨some 19, _, _, _, _, _⟩) (v := ?_) rfl (by kernel_rfl) (by kernel_rfl) (by kernel_rfl) (fun _ _ _ h => h) (Or.inl ⟨by rfl, ?_⟩) (by assumption) ?_
      rotate_left 1
      · intro w hSw; (try dsimp only at hSw); go_simp; try with_reducible rfl
      simp only [Act.put, List.setIfInBounds_toArray, List.set_cons_zero, List.set_cons_succ]
      -- 9: block.go:55 slot 20 := Op.call { builtin len, args := #[t19], argTypes := #[38] }
      refine wpAnyH_take (i := 9) (oi := ⟨some 20, _, _, _, _, _⟩) (v := ?_) rfl (by kernel_rfl) (by kernel_rfl) (by kernel_rfl) (fun _ _ _ h => h) (Or.inl ⟨by rfl, ?_⟩) (by assumption) ?_
      rotate_left 1
      · intro w hSw; (try dsimp only at hSw); go_simp; try with_reducible rfl
      simp only [Act.put, List.setIfInBounds_toArray, List.set_cons_zero, List.set_cons_succ]
      -- 10: block.go:55 slot 21 := Op.binOp BinOp.sub 3 t20 (const (1:i64)) 3
      refine wpAnyH_take (i := 10) (oi := ⟨some 21, _, _, _, _, _⟩) (v := ?_) rfl (by kernel_rfl) (by kernel_rfl) (by kernel_rfl) (fun _ _ _ h => h) (Or.inl ⟨by rfl, ?_⟩) (by assumption) ?_
      rotate_left 1
      · intro w hSw; (try dsimp only at hSw); go_simp; try with_reducible rfl
      simp only [Act.put, List.setIfInBounds_toArray, List.set_cons_zero, List.set_cons_succ]
      -- 11: block.go:55 slot 22 := Op.call { builtin min, args := #[t18, t21], argTypes := #[3, 3] }
      refine wpAnyH_take (i := 11) (oi := ⟨some 22, _, _, _, _, _⟩) (v := ?_) rfl (by kernel_rfl) (by kernel_rfl) (by kernel_rfl) (fun _ _ _ h => h) (Or.inl ⟨by rfl, ?_⟩) (by assumption) ?_
      rotate_left 1
      · intro w hSw; (try dsimp only at hSw); go_simp; try with_reducible rfl
      simp only [Act.put, List.setIfInBounds_toArray, List.set_cons_zero, List.set_cons_succ]
      -- 12: block.go:55 slot 23 := Op.indexAddr 38 t16 t22
      refine wpAnyH_take (i := 12) (oi := ⟨some 23, _, _, _, _, _⟩) (v := ?_) rfl (by kernel_rfl) (by kernel_rfl) (by kernel_rfl) (fun _ _ _ h => h) (Or.inl ⟨by rfl, ?_⟩) (by assumption) ?_
      rotate_left 1
      · intro w hSw; (try dsimp only at hSw); go_simp; try with_reducible rfl
      simp only [Act.put, List.setIfInBounds_toArray, List.set_cons_zero, List.set_cons_succ]
      -- 13: block.go:55 slot 24 := Op.load 25 t23
      refine wpAnyH_take (i := 13) (oi := ⟨some 24, _, _, _, _, _⟩) rfl (by kernel_rfl) (by kernel_rfl) (by kernel_rfl) (fun _ _ _ h => h) (yieldsIf_load_mid (by rfl) _ _ rfl _ _ rfl (nums .u8 (dg ids j)) _ (fun _ h => h.2.1) u2 rfl i2) (by assumption) ?_
      simp only [Act.put, List.setIfInBounds_toArray, List.set_cons_zero, List.set_cons_succ]
      -- 14: block.go:55 slot 25 := Op.call { value (Operand.func 26), args := #[t15, t24], argTypes := #[25, 25] }
      refine wpAnyH_ready (rs := [14]) (by kernel_rfl) (by simp) ?_
      refine AllReadyH.cons (o := ⟨some 25, _, _, _, _, _⟩) rfl (fun K hK => ?_) AllReadyH.nil
      go_simp
      refine (pair_calls (dg ids i) (dg ids j) hx.1 hy.1 hx.2 hy.2 _ (hTr.below (Below.drew (Below.refl _ _)))).mono ?_
      rintro e wq ⟨rfl, hbq⟩
      try go_wp2_with fail
      have hOq := RK.Own.below (RK.Own.below hO (Below.drew (Below.refl _ _))) hbq
      refine hK.out _ _ ⟨range_below hbq hHeld.1, range_below hbq hHeld.2.1, grown_trans hHeld.2.2 (grown_of_below hbq _)⟩ (fun hHeld2 => ?_)
      clear hHeld hO
      clear hK K
      try (simp only [Act.put, List.setIfInBounds_toArray, List.set_cons_zero, List.set_cons_succ])
      -- 15: block.go:55 slot 26 := Op.buildSlice 38 1 #[(0, t25)]
      refine wpAnyH_ready (rs := [15]) (by kernel_rfl) (by simp) ?_
      refine AllReadyH.cons (o := ⟨some 26, _, _, _, _, _⟩) rfl (fun K hK => ?_) AllReadyH.nil
      refine step_buildH (by rfl) 58 24 1 _ (by rfl) Tryd.underlying58 zinfo_hash [pairF (dg ids i) (dg ids j)] (by rfl) (Digs.one (dig_pair _ _)) rfl (by decide) (by decide) (nums .u8 (pairF (dg ids i) (dg ids j))) (flatH_one _) ?_
      refine hK.out _ _ ⟨World.rangeAt_alloc hHeld2.1 _, World.rangeAt_alloc hHeld2.2.1 _, grown_trans hHeld2.2.2 (grown_of_below ((Below.refl _ _).alloc (Nat.le_refl _) _) _)⟩ (fun hHeld3 => ?_)
      clear hHeld2
      have hOb := RK.Own.alloc hOq (.cells (nums .u8 (pairF (dg ids i) (dg ids j))).toArray 24)
      have hgb := heap_alloc_new wq (.cells (nums .u8 (pairF (dg ids i) (dg ids j))).toArray 24)
      clear hK K
      try (simp only [Act.put, List.setIfInBounds_toArray, List.set_cons_zero, List.set_cons_succ])
      -- 16: block.go:55 slot 27 := Op.call { builtin append, args := #[t11, t26], argTypes := #[38, 38] }
      refine wpAnyH_ready (rs := [16]) (by kernel_rfl) (by simp) ?_
      refine AllReadyH.cons (o := ⟨some 27, _, _, _, _, _⟩) rfl (fun K hK => ?_) AllReadyH.nil
      refine step_appH (by rfl) (.tmp 11) (.tmp 26) 58 24 (by rfl) Tryd.underlying58 zinfo_hash w.heap.size _ k ((upF ids).take k) (by rfl) hOb wq.heap.size 1 (pairF (dg ids i) (dg ids j)) (by rfl) hgb (dig_pair _ _) ((upF ids).take (k + 1)) HT.out.symm (by omega) (by have := hbq.size; simp at this ⊢; omega) ?_
      intro A2 c2 w2 hO2 hg2 hat2
      refine hK.out _ _ ⟨range_grown hg2 hHeld3.1 hne, range_grown hg2 hHeld3.2.1 hne, grown_trans hHeld3.2.2 hg2⟩ (fun hHeld4 => ?_)
      clear hHeld3 hOb hgb hOq
      clear hK K
      try (simp only [Act.put, List.setIfInBounds_toArray, List.set_cons_zero, List.set_cons_succ])
      -- 17: block.go:55 slot 3 := Op.assign t27
      refine wpAnyH_take (i := 17) (oi := ⟨some 3, _, _, _, _, _⟩) (v := ?_) rfl (by kernel_rfl) (by kernel_rfl) (by kernel_rfl) (fun _ _ _ h => h) (Or.inl ⟨by rfl, ?_⟩) (by assumption) ?_
      rotate_left 1
      · intro w hSw; (try dsimp only at hSw); go_simp; try with_reducible rfl
      simp only [Act.put, List.setIfInBounds_toArray, List.set_cons_zero, List.set_cons_succ]
      refine wpAnyH_done (by kernel_rfl) ?_ _
      refine NoPanic.normal ?_
      have hB2 : Below w.heap.size w w2 := hB.grown hHeld4.2.2 hB.size (fun q hq => HLT.out q hq)
      clear hHeld4 hB hg2 hat2 rx ry hmin hw1 hw2
      go_wp2
      go_roundw
      case rel => exact ⟨i + 2, k + 1, A2, c2, by have := HIK.out; omega, by omega, by go_num, rfl, hO2, hB2⟩
      case measure => simp [intOf]; omega
    · have hlt' : ¬ (i : Int) < (n : Int) := by omega
      have hm : (n + 1) / 2 = k := by omega
      have ha : (upF ids).take k = upF ids := upF_take_all ids k (by omega)
      rw [ha] at hO
      have HM := Lib.hid hm
      clear hm hik ha hl
      go_wp2
      go_ret
      rw [HM.out]
      exact ⟨A1, c1, rfl, hO, hB⟩
end Go.Proofs.YtclkgflficlmiaaDoor
end

/-! ## BlkRoot -/
section
set_option maxRecDepth 100000
set_option linter.unusedVariables false
namespace Go.Proofs.YtclkgflficlmiaaDoor
open Go Go.RowKit
def sliceLen : Value → Nat
  | .slice _ n _ => n
  | _ => 0
set_option maxHeartbeats 1000000 in
theorem blkroot_calls (w : World) (hT : Tabs w) (A : Option Addr) (n c : Nat) (ids : List (List Int)) (hnc : n ≤ c) (hn : n ≤ 1000000) (hC : HC w A n ids) :
    Calls Tryd.prog 31 #[.slice A n c] w fun e w' => e = .returned (.agg (nums .u8 (rootF ids)).toArray) ∧ Below w.heap.size w w' := by
  have hl := hC.len
  have hR := (rootF_dig _ ids (Nat.le_refl _) (HC.digs hC)).1
  have u2 := Tryd.underlying24
  have h0 := heap_alloc_new w (.cells (nums .u8 zeros32).toArray 24)
  have hb0 : Below w.heap.size w (w.alloc (.cells (nums .u8 zeros32).toArray 24)) := (Below.refl _ _).alloc (Nat.le_refl _) _
  by_cases hn0 : n = 0
  · subst hn0
    obtain rfl := List.eq_nil_of_length_eq_zero hl
    rw [rootF_nil]
    clear hl hR hC
    go_enter Tryd.func31, Tryd.ntmps31
    go_wp2_with (first | (refine wpList_store_any rfl 24 (.tmp 2) (.tmp 7) rfl w.heap.size (nums .u8 zeros32).toArray rfl rfl 24 (nums .u8 zeros32).toArray h0 (info_h _ rfl) rfl (nums_all _ _) ?_; intro w4 h4 ht4))
    refine bodyPost_ret (results_cell_row rfl _ _ w.heap.size 24 (nums .u8 zeros32).toArray (0, 0) _ rfl h4 Tryd.underlying24 rfl (info_h _ rfl)) rfl ⟨rfl, ht4.below hb0 (Nat.le_refl _)⟩
  · have hn1 : ((n : Int) == 0) = false := by rw [beq_eq_false_iff_ne]; omega
    have hCa := RK.C.below hC hb0
    clear hl
    go_enter Tryd.func31, Tryd.ntmps31
    go_wp2
    go_loopw [3] (fun v3 wr => ∃ (A1 : Option Addr) (m c1 : Nat) (L : List (List Int)), v3 = .slice A1 m c1 ∧ m ≤ c1 ∧ 1 ≤ m ∧ m ≤ n ∧ HC wr A1 m L ∧ Hid (rootF L = rootF ids) ∧ Below w.heap.size w wr ∧ wr.heap[w.heap.size]? = some (.cells (nums .u8 zeros32).toArray 24)) (fun v _ => sliceLen v)
    case atStart => exact ⟨A, n, c, ids, rfl, hnc, by omega, by omega, hCa, Lib.hid rfl, hb0, h0⟩
    case round =>
      clear hCa hb0 h0 hC
      obtain ⟨A1, m, c1, L, rfl, hmc, hm1, hmn, hL, HR, hB, hg⟩ := hrel
      have hTr := hT.below hB
      by_cases hlt : 1 < m
      · have hlt' : (1 : Int) < (m : Int) := by omega
        go_wp2_with fail
        refine (up_calls _ hTr A1 m c1 L hmc (by omega) hL).mono ?_
        rintro e w2 ⟨A2, c2, rfl, hO2, hb2⟩
        have hB2 := below_then hB hB.size hb2
        have hg2 := heap_below hb2 hg
        have hC2 := HOwn.C hO2
        have hle := (RK.Own.le_ hO2).1
        have HR2 : Hid (rootF (upF L) = rootF ids) := Lib.hid (by rw [rootF_up L (by rw [hL.len]; exact hlt)]; exact HR.out)
        clear hO2 hb2 hB hg HR hL
        go_wp2
        go_roundw
        case rel => exact ⟨A2, _, c2, upF L, rfl, hle, by omega, by omega, hC2, HR2, hB2, hg2⟩
        case measure => show (m + 1) / 2 < m; omega
      · have hlt' : ¬ (1 : Int) < (m : Int) := by omega
        obtain rfl : m = 1 := by omega
        obtain ⟨b, o, rfl, hbw, hr⟩ := HC.addr hL (by omega)
        have rx := hr 0 (by omega)
        rw [Nat.zero_mul, Nat.add_zero, ← rootF_one L hL.len, HR.out] at rx
        have hi1 : (Tryd.prog.info? 24).map (·.size) = some (nums .u8 (rootF ids)).length := ilen_hash _ hR
        clear hr hL HR
        go_wp2_with (first | (refine wpList_load_mid rfl 24 (.tmp 15) rfl b o rfl (nums .u8 (rootF ids)) _ rx u2 rfl hi1 ?_) | (refine wpList_store_any rfl 24 (.tmp 2) (.tmp 16) rfl w.heap.size (nums .u8 (rootF ids)).toArray rfl rfl 24 (nums .u8 zeros32).toArray hg (info_h _ hR) (size_h _ hR) (nums_all _ _) ?_; intro w4 h4 ht4))
        refine bodyPost_ret (results_cell_row rfl _ _ w.heap.size 24 (nums .u8 (rootF ids)).toArray (0, 0) _ rfl h4 Tryd.underlying24 rfl (info_h _ hR)) rfl ⟨rfl, ht4.below hB (Nat.le_refl _)⟩
end Go.Proofs.YtclkgflficlmiaaDoor
end
