/- block.Parse, whole. -/
import Derived.Test.YtjlkakggmfmfiaaDoorParse3
set_option maxRecDepth 100000
set_option linter.unusedVariables false
namespace Go.Proofs.YtjlkakggmfmfiaaDoor
open Go Go.RowKit
set_option maxHeartbeats 1000000 in
theorem parse_short (w : World) (A : Option Addr) (n c : Nat) (hn : n < 80) :
    Calls Tryd.prog 37 #[.slice A n c] w fun e w' => e = .returned (.tuple #[.agg hd0.cells.toArray, .int .i64 8]) ∧ Below w.heap.size w w' := by
  have hlt : (n : Int) < 80 := by omega
  have g0 := heap_alloc_new w (.cells hd0.cells.toArray 53)
  have hb0 : Below w.heap.size w (w.alloc (.cells hd0.cells.toArray 53)) := (Below.refl _ _).alloc (Nat.le_refl _) _
  go_enter Tryd.func37, Tryd.ntmps37
  go_wp2_with (first | (refine wpList_store_any rfl 53 (.tmp 2) (.tmp 8) rfl w.heap.size hd0.cells.toArray rfl rfl 53 hd0.cells.toArray g0 (info_hd hd0 hd0_ok) rfl (Hd.allOne hd0) ?_; intro w1 h1 ht1))
  exact bodyPost_ret (results_cell_tmp rfl _ _ w.heap.size 53 hd0.cells.toArray (0, 0) _ rfl h1 Tryd.underlying53 rfl (info_hd hd0 hd0_ok)) rfl ⟨rfl, ht1.below hb0 (Nat.le_refl _)⟩
theorem Rd.turned {w w' : World} {g b o n : Nat} {xs : List Value} (h : Rd w (some ⟨b, o, none⟩) n xs) (ht : Turned w g w') (hne : b ≠ g) : Rd w' (some ⟨b, o, none⟩) n xs := by
  refine ⟨h.1, fun hn => ?_⟩
  obtain ⟨b', o', e, hc⟩ := h.2 hn
  injection e with e
  injection e with e1 e2
  subst e1 e2
  exact ⟨b, o, rfl, fun j u hu => (cell_move (ht.block b hne)).trans (hc j u hu)⟩
theorem copy_hd (w : World) (g off b o m c : Nat) (cur : Array Value) (xs : List Int) (hg : w.heap[g]? = some (.cells cur 53)) (hfit : off + 32 ≤ cur.size) (hr : Rd w (some ⟨b, o, none⟩) 32 (nums .u8 xs)) (hm : 32 ≤ m) (ty : TypeId) :
    ∃ w', (Builtin.copy_ #[22, 22] ty #[.slice (some ⟨g, off, none⟩) 32 32, .slice (some ⟨b, o, none⟩) m c]).run Tryd.prog w = .ok (.int .i64 32) w' ∧ w'.heap[g]? = some (.cells (cur.toList.take off ++ nums .u8 xs ++ cur.toList.drop (off + 32)).toArray 53) ∧ Turned w g w' := by
  obtain ⟨b', o', e, hc⟩ := hr.2 (by decide)
  injection e with e
  injection e with e1 e2
  subst e1 e2
  have hl := hr.1
  have hmin : (nums .u8 xs).length = Nat.min m 32 := by rw [hl]; exact (Nat.min_eq_right hm).symm
  have := run_copy_row (P := Tryd.prog) w 22 22 ty 5 g off 32 32 ⟨b, o, none⟩ m c cur 53 (nums .u8 xs) Tryd.underlying22 info_u8 hg hmin
    (fun j v hv => by rw [add_plain']; exact hc j v hv) (by rw [hl]; exact hfit) (nums_one _ _)
  rw [hl] at this
  exact ⟨_, this, setRow_heap _ _ _ _ _ _ hg, turned_setRow w g _⟩
set_option maxHeartbeats 2000000 in
theorem parse_calls (w : World) (b o n c : Nat) (bs : List Int) (hn : 80 ≤ n) (hnc : n ≤ c) (hcm : c ≤ maxLen) (hr : Rd w (some ⟨b, o, none⟩) n (nums .u8 bs)) (hbs : Bytes bs) :
    Calls Tryd.prog 37 #[.slice (some ⟨b, o, none⟩) n c] w fun e w' => e = .returned (.tuple #[.agg (parseF bs).cells.toArray, .int .i64 0]) ∧ Below w.heap.size w w' := by
  have hl : bs.length = n := by have := hr.1; rwa [nums_length] at this
  have hge : ¬ (n : Int) < 80 := by omega
  have hcm' := hcm
  unfold maxLen at hcm'
  have hFok := parseF_ok bs hbs (by omega)
  have hMok := parseM_ok bs hbs
  have g0 := heap_alloc_new w (.cells hd0.cells.toArray 53)
  have hb0 : Below w.heap.size w (w.alloc (.cells hd0.cells.toArray 53)) := (Below.refl _ _).alloc (Nat.le_refl _) _
  have hr0 := hr.alloc (.cells hd0.cells.toArray 53)
  have hlt : b < w.heap.size := by
    obtain ⟨b', o', e, hc⟩ := hr.2 (by omega)
    injection e with e
    injection e with e1 e2
    subst e1 e2
    exact World.block_lt_of_cell? w _ (hc 0 _ (nums_get .u8 bs 0 (by omega)))
  have HL := Lib.hid hl
  clear hl
  go_enter Tryd.func37, Tryd.ntmps37
  go_upto_region 3 with fail
  refine wp_gen (q := fun wi => wi.heap[w.heap.size]? = some (.cells hd0.cells.toArray 53) ∧ Below w.heap.size w wi ∧ Rd wi (some ⟨b, o, none⟩) n (nums .u8 bs)) ⟨g0, hb0, hr0⟩ (fun wi hw => ?_)
  clear g0 hb0 hr0
  obtain ⟨g0, hb0, hr0⟩ := hw
  have hbw : b < wi.heap.size := Nat.lt_of_lt_of_le hlt hb0.size
  refine parse_reg3 wi b o n c _ bs hn hnc hcm hr0 hbs _ ?_
  intro x9 x10 x11 x12 x13 x14 x15 x16 x17 x18 x19 x20 x21 x22 x23 x24 x25 x26 w3 g3 hb3
  have g03 := heap_below hb3 g0
  have b03 := below_then hb0 hb0.size hb3
  have hr3 := hr0.below hb3
  have hne : b ≠ wi.heap.size := by omega
  have hsz : w.heap.size < wi.heap.size := heap_lt g0
  have r4 : Rd w3 (some ⟨b, o + 4, none⟩) 32 (nums .u8 ((bs.drop 4).take 32)) := by have := hr3.cut 4 32 (by omega); rwa [nums_drop, nums_take] at this
  obtain ⟨w4, hcp4, g4, ht4⟩ := copy_hd w3.drew wi.heap.size 1 b (o + 4) (n - 4) (c - 4) _ _ g3 (by rw [List.size_toArray, Hd.length hMok]; decide) (Rd.drew1 r4) (by omega) 3
  rw [List.toList_toArray, Hd.setPrev hMok] at g4
  have hM4 : Hd.Ok { parseM bs with prev := (bs.drop 4).take 32 } := ⟨hMok.v0, hMok.v1, hFok.prev, hMok.root, hMok.t0, hMok.t1, hMok.b0, hMok.b1, hMok.n0, hMok.n1⟩
  have hr4 : Rd w4 (some ⟨b, o, none⟩) n (nums .u8 bs) := Rd.turned (Rd.drew1 hr3) ht4 hne
  have g04 := ht4.keep (show w3.drew.heap[w.heap.size]? = _ from g03) (by omega)
  have b04 : Below w.heap.size w w4 := ht4.below (Below.drew b03) (by omega)
  have hnI : (80 : Int) ≤ (n : Int) := by omega
  have hncI : (n : Int) ≤ (c : Int) := by omega
  have hn4 : (4 : Int) ≤ (n : Int) := by omega
  have hc4 : (4 : Int) ≤ (c : Int) := by omega
  have hn36 : (36 : Int) ≤ (n : Int) := by omega
  have hc36 : (36 : Int) ≤ (c : Int) := by omega
  have e4 : ¬ c = 4 := by omega
  have e36 : ¬ c = 36 := by omega
  clear hr3 hr0 g0 hb0 hb3 g3 ht4 g03 b03 r4
  go_upto_region 4 with fail
  refine wp_region_noPanic ?_
  refine wp_region_held_drew (S := fun _ => True) (by kernel_rfl) trivial (fun hHeld => ?_)
  -- 0: block.go:46 slot 27 := Op.fieldAddr 53 t4 1
  refine wpAnyH_take (i := 0) (oi := ⟨some 27, _, _, _, _, _⟩) (v := ?_) rfl (by kernel_rfl) (by kernel_rfl) (by kernel_rfl) (fun _ _ _ h => h) (Or.inl ⟨by rfl, ?_⟩) (by assumption) ?_
  rotate_left 1
  · intro w hSw; (try dsimp only at hSw); go_simp; try with_reducible rfl
  simp only [Act.put, List.setIfInBounds_toArray, List.set_cons_zero, List.set_cons_succ]
  -- 1: block.go:46 slot 28 := Op.slice 25 t27 none none none
  refine wpAnyH_take (i := 1) (oi := ⟨some 28, _, _, _, _, _⟩) (v := ?_) rfl (by kernel_rfl) (by kernel_rfl) (by kernel_rfl) (fun _ _ _ h => h) (Or.inl ⟨by rfl, ?_⟩) (by assumption) ?_
  rotate_left 1
  · intro w hSw; (try dsimp only at hSw); go_simp; try with_reducible rfl
  simp only [Act.put, List.setIfInBounds_toArray, List.set_cons_zero, List.set_cons_succ]
  -- 2: block.go:46 slot 29 := Op.move t0
  refine wpAnyH_take (i := 2) (oi := ⟨some 29, _, _, _, _, _⟩) (v := ?_) rfl (by kernel_rfl) (by kernel_rfl) (by kernel_rfl) (fun _ _ _ h => h) (Or.inl ⟨by rfl, ?_⟩) (by assumption) ?_
  rotate_left 1
  · intro w hSw; (try dsimp only at hSw); go_simp; try with_reducible rfl
  simp only [Act.put, List.setIfInBounds_toArray, List.set_cons_zero, List.set_cons_succ]
  -- 3: block.go:46 slot 30 := Op.slice 22 t29 (some (const (4:i64))) none none
  refine wpAnyH_take (i := 3) (oi := ⟨some 30, _, _, _, _, _⟩) (v := ?_) rfl (by kernel_rfl) (by kernel_rfl) (by kernel_rfl) (fun _ _ _ h => h) (Or.inl ⟨by rfl, ?_⟩) (by assumption) ?_
  rotate_left 1
  · intro w hSw; (try dsimp only at hSw); go_simp; try with_reducible rfl
  simp only [Act.put, List.setIfInBounds_toArray, List.set_cons_zero, List.set_cons_succ]
  -- 4: block.go:46 slot 31 := Op.call { builtin copy, args := #[t28, t30], argTypes := #[22, 22] }
  refine wpAnyH_ready (rs := [4]) (by kernel_rfl) (by simp) ?_
  refine AllReadyH.cons (o := ⟨some 31, _, _, _, _, _⟩) rfl (fun K hK => ?_) AllReadyH.nil
  refine step_copy (by rfl) (.tmp 28) (.tmp 30) 22 22 (by rfl) _ _ _ _ (by rfl) (by rfl) hcp4 ?_
  refine hK.out _ _ trivial (fun hHeld => ?_)
  clear hK K
  try (simp only [Act.put, List.setIfInBounds_toArray, List.set_cons_zero, List.set_cons_succ])
  refine wpAnyH_done (by kernel_rfl) ?_ _
  refine NoPanic.normal ?_
  clear hcp4
  have r36 : Rd w4 (some ⟨b, o + 36, none⟩) 32 (nums .u8 ((bs.drop 36).take 32)) := by have := hr4.cut 36 32 (by omega); rwa [nums_drop, nums_take] at this
  obtain ⟨w5, hcp5, g5, ht5⟩ := copy_hd w4.drew wi.heap.size 33 b (o + 36) (n - 36) (c - 36) _ _ g4 (by rw [List.size_toArray, Hd.length hM4]; decide) (Rd.drew1 r36) (by omega) 3
  rw [List.toList_toArray, Hd.setRoot hM4] at g5
  have g05 := ht5.keep (show w4.drew.heap[w.heap.size]? = _ from g04) (by omega)
  have b05 : Below w.heap.size w w5 := ht5.below (Below.drew b04) (by omega)
  clear hr4 g4 ht5 g04 b04 r36
  go_upto_region 5 with fail
  refine wp_region_noPanic ?_
  refine wp_region_held_drew (S := fun _ => True) (by kernel_rfl) trivial (fun hHeld => ?_)
  -- 0: block.go:47 slot 32 := Op.fieldAddr 53 t4 2
  refine wpAnyH_take (i := 0) (oi := ⟨some 32, _, _, _, _, _⟩) (v := ?_) rfl (by kernel_rfl) (by kernel_rfl) (by kernel_rfl) (fun _ _ _ h => h) (Or.inl ⟨by rfl, ?_⟩) (by assumption) ?_
  rotate_left 1
  · intro w hSw; (try dsimp only at hSw); go_simp; try with_reducible rfl
  simp only [Act.put, List.setIfInBounds_toArray, List.set_cons_zero, List.set_cons_succ]
  -- 1: block.go:47 slot 33 := Op.slice 25 t32 none none none
  refine wpAnyH_take (i := 1) (oi := ⟨some 33, _, _, _, _, _⟩) (v := ?_) rfl (by kernel_rfl) (by kernel_rfl) (by kernel_rfl) (fun _ _ _ h => h) (Or.inl ⟨by rfl, ?_⟩) (by assumption) ?_
  rotate_left 1
  · intro w hSw; (try dsimp only at hSw); go_simp; try with_reducible rfl
  simp only [Act.put, List.setIfInBounds_toArray, List.set_cons_zero, List.set_cons_succ]
  -- 2: block.go:47 slot 34 := Op.move t0
  refine wpAnyH_take (i := 2) (oi := ⟨some 34, _, _, _, _, _⟩) (v := ?_) rfl (by kernel_rfl) (by kernel_rfl) (by kernel_rfl) (fun _ _ _ h => h) (Or.inl ⟨by rfl, ?_⟩) (by assumption) ?_
  rotate_left 1
  · intro w hSw; (try dsimp only at hSw); go_simp; try with_reducible rfl
  simp only [Act.put, List.setIfInBounds_toArray, List.set_cons_zero, List.set_cons_succ]
  -- 3: block.go:47 slot 35 := Op.slice 22 t34 (some (const (36:i64))) none none
  refine wpAnyH_take (i := 3) (oi := ⟨some 35, _, _, _, _, _⟩) (v := ?_) rfl (by kernel_rfl) (by kernel_rfl) (by kernel_rfl) (fun _ _ _ h => h) (Or.inl ⟨by rfl, ?_⟩) (by assumption) ?_
  rotate_left 1
  · intro w hSw; (try dsimp only at hSw); go_simp; try with_reducible rfl
  simp only [Act.put, List.setIfInBounds_toArray, List.set_cons_zero, List.set_cons_succ]
  -- 4: block.go:47 slot 36 := Op.call { builtin copy, args := #[t33, t35], argTypes := #[22, 22] }
  refine wpAnyH_ready (rs := [4]) (by kernel_rfl) (by simp) ?_
  refine AllReadyH.cons (o := ⟨some 36, _, _, _, _, _⟩) rfl (fun K hK => ?_) AllReadyH.nil
  refine step_copy (by rfl) (.tmp 33) (.tmp 35) 22 22 (by rfl) _ _ _ _ (by rfl) (by rfl) hcp5 ?_
  refine hK.out _ _ trivial (fun hHeld => ?_)
  clear hK K
  try (simp only [Act.put, List.setIfInBounds_toArray, List.set_cons_zero, List.set_cons_succ])
  refine wpAnyH_done (by kernel_rfl) ?_ _
  refine NoPanic.normal ?_
  clear hcp5
  have hFI := info_hd _ hFok
  have hFS : hd0.cells.toArray.size = (parseF bs).cells.toArray.size := hd_sizes hd0_ok hFok
  have hF1 := Hd.allOne (parseF bs)
  have g6 : w5.heap[wi.heap.size]? = some (.cells (parseF bs).cells.toArray 53) := g5
  clear g5
  go_wp2_with (first | (refine wpList_load_row rfl 53 (.tmp 4) rfl wi.heap.size rfl 53 _ _ _ g6 Tryd.underlying53 rfl hFI ?_) | (refine wpList_store_any rfl 53 (.tmp 2) (.tmp 37) rfl w.heap.size (parseF bs).cells.toArray rfl rfl 53 hd0.cells.toArray g05 hFI hFS hF1 ?_; intro w6 h6 ht6))
  exact bodyPost_ret (results_cell_tmp rfl _ _ w.heap.size 53 (parseF bs).cells.toArray (0, 0) _ rfl h6 Tryd.underlying53 rfl hFI) rfl ⟨rfl, ht6.below b05 (Nat.le_refl _)⟩
end Go.Proofs.YtjlkakggmfmfiaaDoor
