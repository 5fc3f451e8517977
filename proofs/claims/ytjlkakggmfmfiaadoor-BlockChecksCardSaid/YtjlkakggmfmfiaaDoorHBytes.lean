/- block.Header.Bytes and Header.Id. -/
import Derived.Test.YtjlkakggmfmfiaaDoorNum
import Derived.Test.YtjlkakggmfmfiaaDoorHdr
import Derived.Test.YtjlkakggmfmfiaaDoorRow2
import Derived.Deep.RegionHeld3
set_option maxRecDepth 100000
set_option linter.unusedVariables false
namespace Go.Proofs.YtjlkakggmfmfiaaDoor
open Go Go.RowKit
/-- Bytes of the call's own are handed back. -/
def BytesPost (w : World) (N : Nat) (zs : List Int) (e : Ending) (w' : World) : Prop := ∃ A c, e = .returned (.slice A N c) ∧ w'.ownsRow w.heap.size 5 1 (.slice A N c) N (nums .u8 zs) ∧ Below w.heap.size w w'
theorem info_hd (h : Hd) (k : h.Ok) : (Tryd.prog.info? 53).map (·.size) = some h.cells.toArray.size := by rw [List.size_toArray, Hd.length k]; kernel_rfl
theorem info32S (xs : List Int) (h : xs.length = 32) : (Tryd.prog.info? 25).map (·.size) = some xs.length := by rw [h]; exact info_hash
set_option maxHeartbeats 2000000 in
theorem bytes_calls (w : World) (h : Hd) (hk : h.Ok) :
    Calls Tryd.prog 34 #[.agg h.cells.toArray] w (BytesPost w 80 (hbF h)) := by
  have g0 := heap_alloc_new w (.cells h.cells.toArray 53)
  have hb0 : Below w.heap.size w (w.alloc (.cells h.cells.toArray 53)) := (Below.refl _ _).alloc (Nat.le_refl _) _
  have hn0 : (w.alloc (.cells h.cells.toArray 53)).ownsRow (w.heap.size + 1) 5 1 (.slice none 0 0) 0 (nums .u8 []) := World.ownsRow_nil _ _ _ _
  have c0 : (w.alloc (.cells h.cells.toArray 53)).cell? ⟨w.heap.size, 0, none⟩ = some (.int .i32 h.ver) := blk_cell g0 (by rw [List.getElem?_toArray]; exact Hd.at0 h)
  have hp := hk.prev.1
  have hr := hk.root.1
  have hv0 := hk.v0
  have hv1 := hk.v1
  have hwr : IntKind.u32.wrap h.ver = h.ver % 4294967296 := IntKind.wrap_u32 _
  go_enter Tryd.func34, Tryd.ntmps34
  go_wp2_with fail
  refine (put_calls _ (w.heap.size + 1) none 0 0 [] (h.ver % 4294967296).toNat 4 (by omega) (by decide) (by decide) (by simp) hn0 _ rfl _ (by omega) 4 (leF 4 (h.ver % 4294967296).toNat) rfl rfl).mono ?_
  rintro e w1 ⟨A1, c1, rfl, ho1, hg1, hx1⟩
  have g1 := heap_grown hg1 g0 (fun e => by simp [Value.ownBlock] at e)
  have hB1 : Below w.heap.size w w1 := hb0.grown hg1 (by simp) (fun k hk => by simp [Value.ownBlock] at hk)
  have hs1 : w.heap.size + 1 ≤ w1.heap.size := by have := hg1.size; simpa using this
  have q1 : Rd w1 (some ⟨w.heap.size, 1, none⟩) 32 (nums .u8 h.prev) := by
    have := Rd.of_block g1 32 (o := 1) (by rw [List.size_toArray, Hd.length hk]; decide)
    rwa [List.toList_toArray, Hd.drop1 hk] at this
  have hne1 : some w.heap.size ≠ (Value.slice A1 4 c1).ownBlock := fun e => by have := own_base ho1 _ e.symm; omega
  have hl1 : Hid (∀ q, (Value.slice A1 4 c1).ownBlock = some q → w.heap.size + 1 ≤ q) := Lib.hid fun q hq => own_base ho1 q hq
  clear c0 hb0 hn0 g0 hg1 hx1 hwr
  go_upto_region 2 with fail
  refine wp_region_noPanic ?_
  refine wp_region_held_drew (S := fun w' => w1.grownBy w' (Value.slice A1 4 c1).ownBlock) (by kernel_rfl) (grown_of_below (Below.drew (Below.refl _ _)) _) (fun hHeld => ?_)
  -- 0: block.go:33 slot 9 := Op.move t3
  refine wpAnyH_take (i := 0) (oi := ⟨some 9, _, _, _, _, _⟩) (v := ?_) rfl (by kernel_rfl) (by kernel_rfl) (by kernel_rfl) (fun _ _ _ h => h) (Or.inl ⟨by rfl, ?_⟩) (by assumption) ?_
  rotate_left 1
  · intro w hSw; (try dsimp only at hSw); go_simp; try with_reducible rfl
  simp only [Act.put, List.setIfInBounds_toArray, List.set_cons_zero, List.set_cons_succ]
  -- 1: block.go:33 slot 10 := Op.fieldAddr 53 t1 1
  refine wpAnyH_take (i := 1) (oi := ⟨some 10, _, _, _, _, _⟩) (v := ?_) rfl (by kernel_rfl) (by kernel_rfl) (by kernel_rfl) (fun _ _ _ h => h) (Or.inl ⟨by rfl, ?_⟩) (by assumption) ?_
  rotate_left 1
  · intro w hSw; (try dsimp only at hSw); go_simp; try with_reducible rfl
  simp only [Act.put, List.setIfInBounds_toArray, List.set_cons_zero, List.set_cons_succ]
  -- 2: block.go:33 slot 11 := Op.slice 25 t10 none none none
  refine wpAnyH_take (i := 2) (oi := ⟨some 11, _, _, _, _, _⟩) (v := ?_) rfl (by kernel_rfl) (by kernel_rfl) (by kernel_rfl) (fun _ _ _ h => h) (Or.inl ⟨by rfl, ?_⟩) (by assumption) ?_
  rotate_left 1
  · intro w hSw; (try dsimp only at hSw); go_simp; try with_reducible rfl
  simp only [Act.put, List.setIfInBounds_toArray, List.set_cons_zero, List.set_cons_succ]
  -- 4: block.go:33 slot 13 := Op.fieldAddr 53 t1 2
  refine wpAnyH_take (i := 4) (oi := ⟨some 13, _, _, _, _, _⟩) (v := ?_) rfl (by kernel_rfl) (by kernel_rfl) (by kernel_rfl) (fun _ _ _ h => h) (Or.inl ⟨by rfl, ?_⟩) (by assumption) ?_
  rotate_left 1
  · intro w hSw; (try dsimp only at hSw); go_simp; try with_reducible rfl
  simp only [Act.put, List.setIfInBounds_toArray, List.set_cons_zero, List.set_cons_succ]
  -- 5: block.go:33 slot 14 := Op.slice 25 t13 none none none
  refine wpAnyH_take (i := 5) (oi := ⟨some 14, _, _, _, _, _⟩) (v := ?_) rfl (by kernel_rfl) (by kernel_rfl) (by kernel_rfl) (fun _ _ _ h => h) (Or.inl ⟨by rfl, ?_⟩) (by assumption) ?_
  rotate_left 1
  · intro w hSw; (try dsimp only at hSw); go_simp; try with_reducible rfl
  simp only [Act.put, List.setIfInBounds_toArray, List.set_cons_zero, List.set_cons_succ]
  -- 3: block.go:33 slot 12 := Op.call { builtin append, args := #[t9, t11], argTypes := #[22, 22] }
  refine wpAnyH_ready (rs := [3]) (by kernel_rfl) (by simp) ?_
  refine AllReadyH.cons (o := ⟨some 12, _, _, _, _, _⟩) rfl (fun K hK => ?_) AllReadyH.nil
  refine step_appN (by rfl) (.tmp 9) (.tmp 11) 22 (by rfl) (w.heap.size + 1) 5 _ 1 Tryd.underlying22 infoU8 rfl (.slice A1 4 c1) 4 (nums .u8 (leF 4 (h.ver % 4294967296).toNat)) (by rfl) (own_drew1 ho1) (some ⟨w.heap.size, 1, none⟩) 32 32 (nums .u8 h.prev) (by rfl) (Rd.drew1 q1) (nums_one _ _) 36 (nums .u8 (leF 4 (h.ver % 4294967296).toNat ++ h.prev)) rfl (nums_append _ _ _).symm (by decide) (by decide) (by simp; omega) ?_
  intro A2 c2 w2 ho2 hg2 hat2
  have hG2 := grown_trans hHeld hg2
  have g2 := heap_grown hG2 g1 hne1
  have q2 : Rd w2 (some ⟨w.heap.size, 33, none⟩) 32 (nums .u8 h.root) := by
    have := Rd.of_block g2 32 (o := 33) (by rw [List.size_toArray, Hd.length hk]; decide)
    rwa [List.toList_toArray, Hd.drop33 hk] at this
  have hs2 : w1.heap.size ≤ w2.heap.size := hG2.size
  have hx2 : (Value.slice A2 36 c2).ownBlock = (Value.slice A1 4 c1).ownBlock ∨ ∃ g, (Value.slice A2 36 c2).ownBlock = some g ∧ w1.heap.size ≤ g := hat2.imp id (fun h => ⟨_, h, Nat.le_refl _⟩)
  have HX2 := Lib.hid hx2
  refine hK.out _ _ hG2 (fun hHeld' => ?_)
  clear hHeld
  have hHeld := hHeld'
  clear hHeld'
  clear hG2 hg2 hat2 hx2
  clear hK K
  try (simp only [Act.put, List.setIfInBounds_toArray, List.set_cons_zero, List.set_cons_succ])
  -- 6: block.go:33 slot 15 := Op.call { builtin append, args := #[t12, t14], argTypes := #[22, 22] }
  refine wpAnyH_ready (rs := [6]) (by kernel_rfl) (by simp) ?_
  refine AllReadyH.cons (o := ⟨some 15, _, _, _, _, _⟩) rfl (fun K hK => ?_) AllReadyH.nil
  refine step_appN (by rfl) (.tmp 12) (.tmp 14) 22 (by rfl) (w.heap.size + 1) 5 _ 1 Tryd.underlying22 infoU8 rfl (.slice A2 36 c2) 36 (nums .u8 (leF 4 (h.ver % 4294967296).toNat ++ h.prev)) (by rfl) ho2 (some ⟨w.heap.size, 33, none⟩) 32 32 (nums .u8 h.root) (by rfl) q2 (nums_one _ _) 68 (nums .u8 (leF 4 (h.ver % 4294967296).toNat ++ h.prev ++ h.root)) rfl (nums_append _ _ _).symm (by decide) (by decide) (by omega) ?_
  intro A3 c3 w3 ho3 hg3 hat3
  refine hK.out _ _ (grown_chain hHeld HX2.out hg3) (fun hHeld' => ?_)
  clear hHeld
  have hHeld := hHeld'
  clear hHeld'
  clear hg3 hat3 ho2 q2 g2
  clear hK K
  try (simp only [Act.put, List.setIfInBounds_toArray, List.set_cons_zero, List.set_cons_succ])
  -- 7: block.go:33 slot 3 := Op.assign t15
  refine wpAnyH_take (i := 7) (oi := ⟨some 3, _, _, _, _, _⟩) (v := ?_) rfl (by kernel_rfl) (by kernel_rfl) (by kernel_rfl) (fun _ _ _ h => h) (Or.inl ⟨by rfl, ?_⟩) (by assumption) ?_
  rotate_left 1
  · intro w hSw; (try dsimp only at hSw); go_simp; try with_reducible rfl
  simp only [Act.put, List.setIfInBounds_toArray, List.set_cons_zero, List.set_cons_succ]
  refine wpAnyH_done (by kernel_rfl) ?_ _
  refine NoPanic.normal ?_
  have g3 := heap_grown hHeld g1 hne1
  have hB3 : Below w.heap.size w w3 := hB1.grown hHeld hB1.size (fun q hq => by have := hl1.out q hq; omega)
  have hs3 : w.heap.size + 1 ≤ w3.heap.size := by have := hHeld.size; omega
  have hne3 : some w.heap.size ≠ (Value.slice A3 68 c3).ownBlock := fun e => by have := own_base ho3 _ e.symm; omega
  have hl3 : Hid (∀ q, (Value.slice A3 68 c3).ownBlock = some q → w.heap.size + 1 ≤ q) := Lib.hid fun q hq => own_base ho3 q hq
  have t1 : w3.cell? ⟨w.heap.size, 65, none⟩ = some (.int .u32 h.time) := blk_cell g3 (by rw [List.getElem?_toArray]; exact Hd.at65 hk)
  have t2 : w3.cell? ⟨w.heap.size, 66, none⟩ = some (.int .u32 h.bits) := blk_cell g3 (by rw [List.getElem?_toArray]; exact Hd.at66 hk)
  have t3 : w3.cell? ⟨w.heap.size, 67, none⟩ = some (.int .u32 h.nonce) := blk_cell g3 (by rw [List.getElem?_toArray]; exact Hd.at67 hk)
  have ht0 := hk.t0
  have ht1 := hk.t1
  have hbb0 := hk.b0
  have hbb1 := hk.b1
  have hnn0 := hk.n0
  have hnn1 := hk.n1
  have hwt : IntKind.u64.wrap h.time = h.time := by rw [IntKind.wrap_u64]; omega
  have hwb : IntKind.u64.wrap h.bits = h.bits := by rw [IntKind.wrap_u64]; omega
  have hwn : IntKind.u64.wrap h.nonce = h.nonce := by rw [IntKind.wrap_u64]; omega
  clear hHeld g1 hB1 q1 hne1 hs1
  go_upto_region 3 with fail
  refine wp_region_noPanic ?_
  refine wp_region_held_drew (S := fun w' => w'.cell? ⟨w.heap.size, 65, none⟩ = some (.int .u32 h.time) ∧ w'.cell? ⟨w.heap.size, 66, none⟩ = some (.int .u32 h.bits) ∧ w'.cell? ⟨w.heap.size, 67, none⟩ = some (.int .u32 h.nonce) ∧ w3.grownBy w' (Value.slice A3 68 c3).ownBlock) (by kernel_rfl) ⟨t1, t2, t3, grown_of_below (Below.drew (Below.refl _ _)) _⟩ (fun hHeld => ?_)
  -- 0: block.go:34 slot 16 := Op.move t3
  refine wpAnyH_take (i := 0) (oi := ⟨some 16, _, _, _, _, _⟩) (v := ?_) rfl (by kernel_rfl) (by kernel_rfl) (by kernel_rfl) (fun _ _ _ h => h) (Or.inl ⟨by rfl, ?_⟩) (by assumption) ?_
  rotate_left 1
  · intro w hSw; (try dsimp only at hSw); go_simp; try with_reducible rfl
  simp only [Act.put, List.setIfInBounds_toArray, List.set_cons_zero, List.set_cons_succ]
  -- 1: block.go:34 slot 17 := Op.fieldAddr 53 t1 3
  refine wpAnyH_take (i := 1) (oi := ⟨some 17, _, _, _, _, _⟩) (v := ?_) rfl (by kernel_rfl) (by kernel_rfl) (by kernel_rfl) (fun _ _ _ h => h) (Or.inl ⟨by rfl, ?_⟩) (by assumption) ?_
  rotate_left 1
  · intro w hSw; (try dsimp only at hSw); go_simp; try with_reducible rfl
  simp only [Act.put, List.setIfInBounds_toArray, List.set_cons_zero, List.set_cons_succ]
  -- 2: block.go:34 slot 18 := Op.load 27 t17
  refine wpAnyH_take (i := 2) (oi := ⟨some 18, _, _, _, _, _⟩) (v := ?_) rfl (by kernel_rfl) (by kernel_rfl) (by kernel_rfl) (fun _ _ _ h => h) (Or.inl ⟨by rfl, ?_⟩) (by assumption) ?_
  rotate_left 1
  · intro w hSw; (try dsimp only at hSw); go_simp; try with_reducible rfl
  simp only [Act.put, List.setIfInBounds_toArray, List.set_cons_zero, List.set_cons_succ]
  -- 3: block.go:34 slot 19 := Op.convert 27 56 t18
  refine wpAnyH_take (i := 3) (oi := ⟨some 19, _, _, _, _, _⟩) (v := ?_) rfl (by kernel_rfl) (by kernel_rfl) (by kernel_rfl) (fun _ _ _ h => h) (Or.inl ⟨by rfl, ?_⟩) (by assumption) ?_
  rotate_left 1
  · intro w hSw; (try dsimp only at hSw); go_simp; try with_reducible rfl
  simp only [Act.put, List.setIfInBounds_toArray, List.set_cons_zero, List.set_cons_succ]
  -- 5: block.go:34 slot 21 := Op.fieldAddr 53 t1 4
  refine wpAnyH_take (i := 5) (oi := ⟨some 21, _, _, _, _, _⟩) (v := ?_) rfl (by kernel_rfl) (by kernel_rfl) (by kernel_rfl) (fun _ _ _ h => h) (Or.inl ⟨by rfl, ?_⟩) (by assumption) ?_
  rotate_left 1
  · intro w hSw; (try dsimp only at hSw); go_simp; try with_reducible rfl
  simp only [Act.put, List.setIfInBounds_toArray, List.set_cons_zero, List.set_cons_succ]
  -- 6: block.go:34 slot 22 := Op.load 27 t21
  refine wpAnyH_take (i := 6) (oi := ⟨some 22, _, _, _, _, _⟩) (v := ?_) rfl (by kernel_rfl) (by kernel_rfl) (by kernel_rfl) (fun _ _ _ h => h) (Or.inl ⟨by rfl, ?_⟩) (by assumption) ?_
  rotate_left 1
  · intro w hSw; (try dsimp only at hSw); go_simp; try with_reducible rfl
  simp only [Act.put, List.setIfInBounds_toArray, List.set_cons_zero, List.set_cons_succ]
  -- 7: block.go:34 slot 23 := Op.convert 27 56 t22
  refine wpAnyH_take (i := 7) (oi := ⟨some 23, _, _, _, _, _⟩) (v := ?_) rfl (by kernel_rfl) (by kernel_rfl) (by kernel_rfl) (fun _ _ _ h => h) (Or.inl ⟨by rfl, ?_⟩) (by assumption) ?_
  rotate_left 1
  · intro w hSw; (try dsimp only at hSw); go_simp; try with_reducible rfl
  simp only [Act.put, List.setIfInBounds_toArray, List.set_cons_zero, List.set_cons_succ]
  -- 9: block.go:34 slot 25 := Op.fieldAddr 53 t1 5
  refine wpAnyH_take (i := 9) (oi := ⟨some 25, _, _, _, _, _⟩) (v := ?_) rfl (by kernel_rfl) (by kernel_rfl) (by kernel_rfl) (fun _ _ _ h => h) (Or.inl ⟨by rfl, ?_⟩) (by assumption) ?_
  rotate_left 1
  · intro w hSw; (try dsimp only at hSw); go_simp; try with_reducible rfl
  simp only [Act.put, List.setIfInBounds_toArray, List.set_cons_zero, List.set_cons_succ]
  -- 10: block.go:34 slot 26 := Op.load 27 t25
  refine wpAnyH_take (i := 10) (oi := ⟨some 26, _, _, _, _, _⟩) (v := ?_) rfl (by kernel_rfl) (by kernel_rfl) (by kernel_rfl) (fun _ _ _ h => h) (Or.inl ⟨by rfl, ?_⟩) (by assumption) ?_
  rotate_left 1
  · intro w hSw; (try dsimp only at hSw); go_simp; try with_reducible rfl
  simp only [Act.put, List.setIfInBounds_toArray, List.set_cons_zero, List.set_cons_succ]
  -- 11: block.go:34 slot 27 := Op.convert 27 56 t26
  refine wpAnyH_take (i := 11) (oi := ⟨some 27, _, _, _, _, _⟩) (v := ?_) rfl (by kernel_rfl) (by kernel_rfl) (by kernel_rfl) (fun _ _ _ h => h) (Or.inl ⟨by rfl, ?_⟩) (by assumption) ?_
  rotate_left 1
  · intro w hSw; (try dsimp only at hSw); go_simp; try with_reducible rfl
  simp only [Act.put, List.setIfInBounds_toArray, List.set_cons_zero, List.set_cons_succ]
  -- 4: block.go:34 slot 20 := Op.call { value (Operand.func 67), args := #[t16, t19, const (4:i64)], argTypes := #[22, 56, 3] }
  refine wpAnyH_ready (rs := [4]) (by kernel_rfl) (by simp) ?_
  refine AllReadyH.cons (o := ⟨some 20, _, _, _, _, _⟩) rfl (fun K hK => ?_) AllReadyH.nil
  go_simp
  refine (put_calls _ (w.heap.size + 1) A3 68 c3 (leF 4 (h.ver % 4294967296).toNat ++ h.prev ++ h.root) h.time.toNat 4 (by omega) (by decide) (by decide) (by first | omega | (simp; omega)) (own_drew1 ho3) _ rfl _ (by omega) 72 (leF 4 (h.ver % 4294967296).toNat ++ h.prev ++ h.root ++ leF 4 h.time.toNat) rfl rfl).mono ?_
  rintro e w4 ⟨A4, c4, rfl, ho4, hg, hx⟩
  try go_wp2_with fail
  have hxx := hx.imp id (fun ⟨g, h1, h2⟩ => (⟨g, h1, h2⟩ : ∃ g, (Value.slice A4 72 c4).ownBlock = some g ∧ w3.heap.size ≤ g))
  have HX4 := Lib.hid hxx
  clear hxx
  have hG := grown_trans hHeld.2.2.2 hg
  have hs4 : w.heap.size + 1 ≤ w4.heap.size := by have := hG.size; omega
  refine hK.out _ _ ⟨cell_grown hG t1 hne3, cell_grown hG t2 hne3, cell_grown hG t3 hne3, hG⟩ (fun hHeld' => ?_)
  clear hHeld
  have hHeld := hHeld'
  clear hHeld'
  clear hG hg hx
  clear hK K
  try (simp only [Act.put, List.setIfInBounds_toArray, List.set_cons_zero, List.set_cons_succ])
  -- 8: block.go:34 slot 24 := Op.call { value (Operand.func 67), args := #[t20, t23, const (4:i64)], argTypes := #[22, 56, 3] }
  refine wpAnyH_ready (rs := [8]) (by kernel_rfl) (by simp) ?_
  refine AllReadyH.cons (o := ⟨some 24, _, _, _, _, _⟩) rfl (fun K hK => ?_) AllReadyH.nil
  go_simp
  refine (put_calls _ (w.heap.size + 1) A4 72 c4 (leF 4 (h.ver % 4294967296).toNat ++ h.prev ++ h.root ++ leF 4 h.time.toNat) h.bits.toNat 4 (by omega) (by decide) (by decide) (by first | omega | (simp; omega)) ho4 _ rfl _ (by omega) 76 (leF 4 (h.ver % 4294967296).toNat ++ h.prev ++ h.root ++ leF 4 h.time.toNat ++ leF 4 h.bits.toNat) rfl rfl).mono ?_
  rintro e w5 ⟨A5, c5, rfl, ho5, hg, hx⟩
  try go_wp2_with fail
  have hxx := own_chain HX4.out hHeld.2.2.2.size hx
  have HX5 := Lib.hid hxx
  clear hxx
  have hG := grown_chain hHeld.2.2.2 HX4.out hg
  have hs5 : w.heap.size + 1 ≤ w5.heap.size := by have := hG.size; omega
  refine hK.out _ _ ⟨cell_grown hG t1 hne3, cell_grown hG t2 hne3, cell_grown hG t3 hne3, hG⟩ (fun hHeld' => ?_)
  clear hHeld
  have hHeld := hHeld'
  clear hHeld'
  clear hG hg hx
  clear hK K
  try (simp only [Act.put, List.setIfInBounds_toArray, List.set_cons_zero, List.set_cons_succ])
  -- 12: block.go:34 slot 28 := Op.call { value (Operand.func 67), args := #[t24, t27, const (4:i64)], argTypes := #[22, 56, 3] }
  refine wpAnyH_ready (rs := [12]) (by kernel_rfl) (by simp) ?_
  refine AllReadyH.cons (o := ⟨some 28, _, _, _, _, _⟩) rfl (fun K hK => ?_) AllReadyH.nil
  go_simp
  refine (put_calls _ (w.heap.size + 1) A5 76 c5 (leF 4 (h.ver % 4294967296).toNat ++ h.prev ++ h.root ++ leF 4 h.time.toNat ++ leF 4 h.bits.toNat) h.nonce.toNat 4 (by omega) (by decide) (by decide) (by first | omega | (simp; omega)) ho5 _ rfl _ (by omega) 80 (leF 4 (h.ver % 4294967296).toNat ++ h.prev ++ h.root ++ leF 4 h.time.toNat ++ leF 4 h.bits.toNat ++ leF 4 h.nonce.toNat) rfl rfl).mono ?_
  rintro e w6 ⟨A6, c6, rfl, ho6, hg, hx⟩
  try go_wp2_with fail
  have hxx := own_chain HX5.out hHeld.2.2.2.size hx
  have HX6 := Lib.hid hxx
  clear hxx
  have hG := grown_chain hHeld.2.2.2 HX5.out hg
  have hs6 : w.heap.size + 1 ≤ w6.heap.size := by have := hG.size; omega
  refine hK.out _ _ ⟨cell_grown hG t1 hne3, cell_grown hG t2 hne3, cell_grown hG t3 hne3, hG⟩ (fun hHeld' => ?_)
  clear hHeld
  have hHeld := hHeld'
  clear hHeld'
  clear hG hg hx
  clear hK K
  try (simp only [Act.put, List.setIfInBounds_toArray, List.set_cons_zero, List.set_cons_succ])
  -- 13: block.go:34 slot 2 := Op.assign t28
  refine wpAnyH_take (i := 13) (oi := ⟨some 2, _, _, _, _, _⟩) (v := ?_) rfl (by kernel_rfl) (by kernel_rfl) (by kernel_rfl) (fun _ _ _ h => h) (Or.inl ⟨by rfl, ?_⟩) (by assumption) ?_
  rotate_left 1
  · intro w hSw; (try dsimp only at hSw); go_simp; try with_reducible rfl
  simp only [Act.put, List.setIfInBounds_toArray, List.set_cons_zero, List.set_cons_succ]
  refine wpAnyH_done (by kernel_rfl) ?_ _
  refine NoPanic.normal ?_
  have hB6 : Below w.heap.size w w6 := hB3.grown hHeld.2.2.2 hB3.size (fun q hq => by have := hl3.out q hq; omega)
  clear hHeld hB3 t1 t2 t3 g3
  go_wp2
  go_ret
  exact ⟨A6, c6, rfl, own_mono ho6 (by omega), hB6⟩
set_option maxHeartbeats 1000000 in
theorem id_calls (w : World) (hT : Tabs w) (h : Hd) (hk : h.Ok) :
    Calls Tryd.prog 36 #[.agg h.cells.toArray] w fun e w' => e = .returned (.agg (nums .u8 (dblF (hbF h))).toArray) ∧ Below w.heap.size w w' := by
  have hd := dblF_length (hbF h)
  have g0 : ((w.alloc (.cells h.cells.toArray 53)).alloc (.cells (nums .u8 zeros32).toArray 25)).heap[w.heap.size]? = some (.cells h.cells.toArray 53) := heap_alloc2_old _ _ _
  have g1 : ((w.alloc (.cells h.cells.toArray 53)).alloc (.cells (nums .u8 zeros32).toArray 25)).heap[w.heap.size + 1]? = some (.cells (nums .u8 zeros32).toArray 25) := heap_alloc2_new _ _ _
  have hb0 : Below w.heap.size w ((w.alloc (.cells h.cells.toArray 53)).alloc (.cells (nums .u8 zeros32).toArray 25)) := ((Below.refl _ _).alloc (Nat.le_refl _) _).alloc (by simp) _
  have hT0 := hT.below hb0
  go_enter Tryd.func36, Tryd.ntmps36
  go_wp2_with (first | (refine wpList_load_row rfl 53 (.tmp 1) rfl w.heap.size rfl 53 _ _ _ g0 Tryd.underlying53 rfl (info_hd h hk) ?_))
  refine (bytes_calls _ h hk).mono ?_
  rintro e w1 ⟨A1, c1, rfl, ho1, hb1⟩
  have hT1 := hT0.below hb1
  have g11 := heap_below hb1 g1
  have b01 := below_then hb0 hb0.size hb1
  have hm1 := Rd.of_own ho1
  have hc1 := (own_le ho1).1
  clear g0 g1 hb0 hT0 ho1 hb1
  go_wp2_with fail
  refine (double_calls A1 80 c1 (hbF h) _ (by decide) hc1 (hbF_bytes hk) hm1 hT1).mono ?_
  rintro e w2 ⟨rfl, hb2⟩
  have g12 := heap_below hb2 g11
  have b02 := below_then b01 b01.size hb2
  clear hm1 hT1 g11 b01 hb2
  go_wp2_with (first | (refine wpList_store_any rfl 25 (.tmp 2) (.tmp 5) rfl (w.heap.size + 1) (nums .u8 (dblF (hbF h))).toArray rfl rfl 25 (nums .u8 zeros32).toArray g12 (info_h _ hd) (size_h _ hd) (nums_all _ _) ?_; intro w3 h3 ht3))
  refine bodyPost_ret (results_cell_row rfl _ _ (w.heap.size + 1) 25 (nums .u8 (dblF (hbF h))).toArray (0, 0) _ rfl h3 Tryd.underlying25 rfl (info_h _ hd)) rfl ⟨rfl, ht3.below b02 (by omega)⟩
end Go.Proofs.YtjlkakggmfmfiaaDoor
