/- block.Header.Bytes and Header.Id. | block.Parse: the header that bytes begin with. | block.Parse, whole. | A header compared with itself; a header's bytes read again. -/
import Derived.Test.YtclkgflficlmiaaDoorNum
import Derived.Test.YtclkgflficlmiaaDoorHdr
import Derived.Test.YtclkgflficlmiaaDoorRow
import Derived.Deep.RegionHeld3
import Derived.Laws.CopyRow
import Derived.Deep.CutBlock
import Derived.Laws.StructEq
/-! ## HBytes -/
section
set_option maxRecDepth 100000
set_option linter.unusedVariables false
namespace Go.Proofs.YtclkgflficlmiaaDoor
open Go Go.RowKit
/-- Bytes of the call's own are handed back. -/
def BytesPost (w : World) (N : Nat) (zs : List Int) (e : Ending) (w' : World) : Prop := ∃ A c, e = .returned (.slice A N c) ∧ w'.ownsRow w.heap.size 5 1 (.slice A N c) N (nums .u8 zs) ∧ Below w.heap.size w w'
theorem info_hd (h : Hd) (k : h.Ok) : (Tryd.prog.info? 37).map (·.size) = some h.cells.toArray.size := by rw [List.size_toArray, Hd.length k]; kernel_rfl
theorem info32S (xs : List Int) (h : xs.length = 32) : (Tryd.prog.info? 24).map (·.size) = some xs.length := by rw [h]; exact info_hash
set_option maxHeartbeats 2000000 in
theorem bytes_calls (w : World) (h : Hd) (hk : h.Ok) :
    Calls Tryd.prog 21 #[.agg h.cells.toArray] w (BytesPost w 80 (hbF h)) := by
  have g0 := heap_alloc_new w (.cells h.cells.toArray 37)
  have hb0 : Below w.heap.size w (w.alloc (.cells h.cells.toArray 37)) := (Below.refl _ _).alloc (Nat.le_refl _) _
  have hn0 : (w.alloc (.cells h.cells.toArray 37)).ownsRow (w.heap.size + 1) 5 1 (.slice none 0 0) 0 (nums .u8 []) := World.ownsRow_nil _ _ _ _
  have c0 : (w.alloc (.cells h.cells.toArray 37)).cell? ⟨w.heap.size, 0, none⟩ = some (.int .i32 h.ver) := blk_cell g0 (by rw [List.getElem?_toArray]; exact Hd.at0 h)
  have hp := hk.prev.1
  have hr := hk.root.1
  have hv0 := hk.v0
  have hv1 := hk.v1
  have hwr : IntKind.u32.wrap h.ver = h.ver % 4294967296 := IntKind.wrap_u32 _
  go_enter Tryd.func21, Tryd.ntmps21
  go_wp2_with fail
  refine (put_calls _ (w.heap.size + 1) none 0 0 [] (h.ver % 4294967296).toNat 4 (by omega) (by decide) (by decide) (by simp) hn0 _ rfl _ (by omega) 4 (leF 4 (h.ver % 4294967296).toNat) rfl rfl).mono ?_
  rintro e w1 ⟨A1, c1, rfl, ho1, hg1, hx1⟩
  have g1 := heap_grown hg1 g0 (fun e => by simp [Value.ownBlock] at e)
  have hB1 : Below w.heap.size w w1 := hb0.grown hg1 (by simp) (fun k hk => by simp [Value.ownBlock] at hk)
  have hs1 : w.heap.size + 1 ≤ w1.heap.size := by have := hg1.size; simpa using this
  have q1 : Rd w1 (some ⟨w.heap.size, 1, none⟩) 32 (nums .u8 h.prev) := by
    have := Rd.of_block g1 32 (o := 1) (by rw [List.size_toArray, Hd.length hk]; decide)
    rwa [List.toList_toArray, Hd.drop1 hk] at this
  have hne1 : some w.heap.size ≠ (Value.slice A1 4 c1).ownBlock := fun e => by have := own_base ho1 _ e.symm; omega
  have hl1 : Hid (∀ q, (Value.slice A1 4 c1).ownBlock = some q → w.heap.size + 1 ≤ q) := Lib.hid fun q hq => own_base ho1 q hq
  clear c0 hb0 hn0 g0 hg1 hx1 hwr
  go_upto_region 2 with fail
  refine wp_region_noPanic ?_
  refine wp_region_held_drew (S := fun w' => w1.grownBy w' (Value.slice A1 4 c1).ownBlock) (by kernel_rfl) (grown_of_below (Below.drew (Below.refl _ _)) _) (fun hHeld => ?_)
  -- 0: block.go:33 slot 9 := Op.move t3
  refine wpAnyH_take (i := 0) (oi := ⟨some 9, _, _, _, _, _⟩) (v := ?_) rfl (by kernel_rfl) (by kernel_rfl) (by kernel_rfl) (fun _ _ _ h => h) (Or.inl ⟨by rfl, ?_⟩) (by assumption) ?_
  rotate_left 1
  · intro w hSw; (try dsimp only at hSw); go_simp; try with_reducible rfl
  simp only [Act.put, List.setIfInBounds_toArray, List.set_cons_zero, List.set_cons_succ]
  -- 1: block.go:33 slot 10 := Op.fieldAddr 53 t1 1
  refine wpAnyH_take (i := 1) (oi := ⟨some 10, _, _, _, _, _⟩) (v := ?_) rfl (by kernel_rfl) (by kernel_rfl) (by kernel_rfl) (fun _ _ _ h => h) (Or.inl ⟨by rfl, ?_⟩) (by assumption) ?_
  rotate_left 1
  · intro w hSw; (try dsimp only at hSw); go_simp; try with_reducible rfl
  simp only [Act.put, List.setIfInBounds_toArray, List.set_cons_zero, List.set_cons_succ]
  -- 2: block.go:33 slot 11 := Op.slice 25 t10 none none none
  refine wpAnyH_take (i := 2) (oi := ⟨some 11, _, _, _, _, _⟩) (v := ?_) rfl (by kernel_rfl) (by kernel_rfl) (by kernel_rfl) (fun _ _ _ h => h) (Or.inl ⟨by rfl, ?_⟩) (by assumption) ?_
  rotate_left 1
  · intro w hSw; (try dsimp only at hSw); go_simp; try with_reducible rfl
  simp only [Act.put, List.setIfInBounds_toArray, List.set_cons_zero, List.set_cons_succ]
  -- 4: block.go:33 slot 13 := Op.fieldAddr 53 t1 2
  refine wpAnyH_take (i := 4) (oi := ⟨some 13, _, _, _, _, _⟩) (v := ?_) rfl (by kernel_rfl) (by kernel_rfl) (by kernel_rfl) (fun _ _ _ h => h) (Or.inl ⟨by rfl, ?_⟩) (by assumption) ?_
  rotate_left 1
  · intro w hSw; (try dsimp only at hSw); go_simp; try with_reducible rfl
  simp only [Act.put, List.setIfInBounds_toArray, List.set_cons_zero, List.set_cons_succ]
  -- 5: block.go:33 slot 14 := Op.slice 25 t13 none none none
  refine wpAnyH_take (i := 5) (oi := ⟨some 14, _, _, _, _, _⟩) (v := ?_) rfl (by kernel_rfl) (by kernel_rfl) (by kernel_rfl) (fun _ _ _ h => h) (Or.inl ⟨by rfl, ?_⟩) (by assumption) ?_
  rotate_left 1
  · intro w hSw; (try dsimp only at hSw); go_simp; try with_reducible rfl
  simp only [Act.put, List.setIfInBounds_toArray, List.set_cons_zero, List.set_cons_succ]
  -- 3: block.go:33 slot 12 := Op.call { builtin append, args := #[t9, t11], argTypes := #[22, 22] }
  refine wpAnyH_ready (rs := [3]) (by kernel_rfl) (by simp) ?_
  refine AllReadyH.cons (o := ⟨some 12, _, _, _, _, _⟩) rfl (fun K hK => ?_) AllReadyH.nil
  refine step_appN (by rfl) (.tmp 9) (.tmp 11) 22 (by rfl) (w.heap.size + 1) 5 _ 1 Tryd.underlying22 infoU8 rfl (.slice A1 4 c1) 4 (nums .u8 (leF 4 (h.ver % 4294967296).toNat)) (by rfl) (own_drew1 ho1) (some ⟨w.heap.size, 1, none⟩) 32 32 (nums .u8 h.prev) (by rfl) (Rd.drew1 q1) (nums_one _ _) 36 (nums .u8 (leF 4 (h.ver % 4294967296).toNat ++ h.prev)) rfl (nums_append _ _ _).symm (by decide) (by decide) (by simp; omega) ?_
  intro A2 c2 w2 ho2 hg2 hat2
  have hG2 := grown_trans hHeld hg2
  have g2 := heap_grown hG2 g1 hne1
  have q2 : Rd w2 (some ⟨w.heap.size, 33, none⟩) 32 (nums .u8 h.root) := by
    have := Rd.of_block g2 32 (o := 33) (by rw [List.size_toArray, Hd.length hk]; decide)
    rwa [List.toList_toArray, Hd.drop33 hk] at this
  have hs2 : w1.heap.size ≤ w2.heap.size := hG2.size
  have hx2 : (Value.slice A2 36 c2).ownBlock = (Value.slice A1 4 c1).ownBlock ∨ ∃ g, (Value.slice A2 36 c2).ownBlock = some g ∧ w1.heap.size ≤ g := hat2.imp id (fun h => ⟨_, h, Nat.le_refl _⟩)
  have HX2 := Lib.hid hx2
  refine hK.out _ _ hG2 (fun hHeld' => ?_)
  clear hHeld
  have hHeld := hHeld'
  clear hHeld'
  clear hG2 hg2 hat2 hx2
  clear hK K
  try (simp only [Act.put, List.setIfInBounds_toArray, List.set_cons_zero, List.set_cons_succ])
  -- 6: block.go:33 slot 15 := Op.call { builtin append, args := #[t12, t14], argTypes := #[22, 22] }
  refine wpAnyH_ready (rs := [6]) (by kernel_rfl) (by simp) ?_
  refine AllReadyH.cons (o := ⟨some 15, _, _, _, _, _⟩) rfl (fun K hK => ?_) AllReadyH.nil
  refine step_appN (by rfl) (.tmp 12) (.tmp 14) 22 (by rfl) (w.heap.size + 1) 5 _ 1 Tryd.underlying22 infoU8 rfl (.slice A2 36 c2) 36 (nums .u8 (leF 4 (h.ver % 4294967296).toNat ++ h.prev)) (by rfl) ho2 (some ⟨w.heap.size, 33, none⟩) 32 32 (nums .u8 h.root) (by rfl) q2 (nums_one _ _) 68 (nums .u8 (leF 4 (h.ver % 4294967296).toNat ++ h.prev ++ h.root)) rfl (nums_append _ _ _).symm (by decide) (by decide) (by omega) ?_
  intro A3 c3 w3 ho3 hg3 hat3
  refine hK.out _ _ (grown_chain hHeld HX2.out hg3) (fun hHeld' => ?_)
  clear hHeld
  have hHeld := hHeld'
  clear hHeld'
  clear hg3 hat3 ho2 q2 g2
  clear hK K
  try (simp only [Act.put, List.setIfInBounds_toArray, List.set_cons_zero, List.set_cons_succ])
  -- 7: block.go:33 slot 3 := Op.assign t15
  refine wpAnyH_take (i := 7) (oi := ⟨some 3, _, _, _, _, _⟩) (v := ?_) rfl (by kernel_rfl) (by kernel_rfl) (by kernel_rfl) (fun _ _ _ h => h) (Or.inl ⟨by rfl, ?_⟩) (by assumption) ?_
  rotate_left 1
  · intro w hSw; (try dsimp only at hSw); go_simp; try with_reducible rfl
  simp only [Act.put, List.setIfInBounds_toArray, List.set_cons_zero, List.set_cons_succ]
  refine wpAnyH_done (by kernel_rfl) ?_ _
  refine NoPanic.normal ?_
  have g3 := heap_grown hHeld g1 hne1
  have hB3 : Below w.heap.size w w3 := hB1.grown hHeld hB1.size (fun q hq => by have := hl1.out q hq; omega)
  have hs3 : w.heap.size + 1 ≤ w3.heap.size := by have := hHeld.size; omega
  have hne3 : some w.heap.size ≠ (Value.slice A3 68 c3).ownBlock := fun e => by have := own_base ho3 _ e.symm; omega
  have hl3 : Hid (∀ q, (Value.slice A3 68 c3).ownBlock = some q → w.heap.size + 1 ≤ q) := Lib.hid fun q hq => own_base ho3 q hq
  have t1 : w3.cell? ⟨w.heap.size, 65, none⟩ = some (.int .u32 h.time) := blk_cell g3 (by rw [List.getElem?_toArray]; exact Hd.at65 hk)
  have t2 : w3.cell? ⟨w.heap.size, 66, none⟩ = some (.int .u32 h.bits) := blk_cell g3 (by rw [List.getElem?_toArray]; exact Hd.at66 hk)
  have t3 : w3.cell? ⟨w.heap.size, 67, none⟩ = some (.int .u32 h.nonce) := blk_cell g3 (by rw [List.getElem?_toArray]; exact Hd.at67 hk)
  have ht0 := hk.t0
  have ht1 := hk.t1
  have hbb0 := hk.b0
  have hbb1 := hk.b1
  have hnn0 := hk.n0
  have hnn1 := hk.n1
  have hwt : IntKind.u64.wrap h.time = h.time := by rw [IntKind.wrap_u64]; omega
  have hwb : IntKind.u64.wrap h.bits = h.bits := by rw [IntKind.wrap_u64]; omega
  have hwn : IntKind.u64.wrap h.nonce = h.nonce := by rw [IntKind.wrap_u64]; omega
  clear hHeld g1 hB1 q1 hne1 hs1
  go_upto_region 3 with fail
  refine wp_region_noPanic ?_
  refine wp_region_held_drew (S := fun w' => w'.cell? ⟨w.heap.size, 65, none⟩ = some (.int .u32 h.time) ∧ w'.cell? ⟨w.heap.size, 66, none⟩ = some (.int .u32 h.bits) ∧ w'.cell? ⟨w.heap.size, 67, none⟩ = some (.int .u32 h.nonce) ∧ w3.grownBy w' (Value.slice A3 68 c3).ownBlock) (by kernel_rfl) ⟨t1, t2, t3, grown_of_below (Below.drew (Below.refl _ _)) _⟩ (fun hHeld => ?_)
  -- 0: block.go:34 slot 16 := Op.move t3
  refine wpAnyH_take (i := 0) (oi := ⟨some 16, _, _, _, _, _⟩) (v := ?_) rfl (by kernel_rfl) (by kernel_rfl) (by kernel_rfl) (fun _ _ _ h => h) (Or.inl ⟨by rfl, ?_⟩) (by assumption) ?_
  rotate_left 1
  · intro w hSw; (try dsimp only at hSw); go_simp; try with_reducible rfl
  simp only [Act.put, List.setIfInBounds_toArray, List.set_cons_zero, List.set_cons_succ]
  -- 1: block.go:34 slot 17 := Op.fieldAddr 53 t1 3
  refine wpAnyH_take (i := 1) (oi := ⟨some 17, _, _, _, _, _⟩) (v := ?_) rfl (by kernel_rfl) (by kernel_rfl) (by kernel_rfl) (fun _ _ _ h => h) (Or.inl ⟨by rfl, ?_⟩) (by assumption) ?_
  rotate_left 1
  · intro w hSw; (try dsimp only at hSw); go_simp; try with_reducible rfl
  simp only [Act.put, List.setIfInBounds_toArray, List.set_cons_zero, List.set_cons_succ]
  -- 2: block.go:34 slot 18 := Op.load 27 t17
  refine wpAnyH_take (i := 2) (oi := ⟨some 18, _, _, _, _, _⟩) (v := ?_) rfl (by kernel_rfl) (by kernel_rfl) (by kernel_rfl) (fun _ _ _ h => h) (Or.inl ⟨by rfl, ?_⟩) (by assumption) ?_
  rotate_left 1
  · intro w hSw; (try dsimp only at hSw); go_simp; try with_reducible rfl
  simp only [Act.put, List.setIfInBounds_toArray, List.set_cons_zero, List.set_cons_succ]
  -- 3: block.go:34 slot 19 := Op.convert 27 56 t18
  refine wpAnyH_take (i := 3) (oi := ⟨some 19, _, _, _, _, _⟩) (v := ?_) rfl (by kernel_rfl) (by kernel_rfl) (by kernel_rfl) (fun _ _ _ h => h) (Or.inl ⟨by rfl, ?_⟩) (by assumption) ?_
  rotate_left 1
  · intro w hSw; (try dsimp only at hSw); go_simp; try with_reducible rfl
  simp only [Act.put, List.setIfInBounds_toArray, List.set_cons_zero, List.set_cons_succ]
  -- 5: block.go:34 slot 21 := Op.fieldAddr 53 t1 4
  refine wpAnyH_take (i := 5) (oi := ⟨some 21, _, _, _, _, _⟩) (v := ?_) rfl (by kernel_rfl) (by kernel_rfl) (by kernel_rfl) (fun _ _ _ h => h) (Or.inl ⟨by rfl, ?_⟩) (by assumption) ?_
  rotate_left 1
  · intro w hSw; (try dsimp only at hSw); go_simp; try with_reducible rfl
  simp only [Act.put, List.setIfInBounds_toArray, List.set_cons_zero, List.set_cons_succ]
  -- 6: block.go:34 slot 22 := Op.load 27 t21
  refine wpAnyH_take (i := 6) (oi := ⟨some 22, _, _, _, _, _⟩) (v := ?_) rfl (by kernel_rfl) (by kernel_rfl) (by kernel_rfl) (fun _ _ _ h => h) (Or.inl ⟨by rfl, ?_⟩) (by assumption) ?_
  rotate_left 1
  · intro w hSw; (try dsimp only at hSw); go_simp; try with_reducible rfl
  simp only [Act.put, List.setIfInBounds_toArray, List.set_cons_zero, List.set_cons_succ]
  -- 7: block.go:34 slot 23 := Op.convert 27 56 t22
  refine wpAnyH_take (i := 7) (oi := ⟨some 23, _, _, _, _, _⟩) (v := ?_) rfl (by kernel_rfl) (by kernel_rfl) (by kernel_rfl) (fun _ _ _ h => h) (Or.inl ⟨by rfl, ?_⟩) (by assumption) ?_
  rotate_left 1
  · intro w hSw; (try dsimp only at hSw); go_simp; try with_reducible rfl
  simp only [Act.put, List.setIfInBounds_toArray, List.set_cons_zero, List.set_cons_succ]
  -- 9: block.go:34 slot 25 := Op.fieldAddr 53 t1 5
  refine wpAnyH_take (i := 9) (oi := ⟨some 25, _, _, _, _, _⟩) (v := ?_) rfl (by kernel_rfl) (by kernel_rfl) (by kernel_rfl) (fun _ _ _ h => h) (Or.inl ⟨by rfl, ?_⟩) (by assumption) ?_
  rotate_left 1
  · intro w hSw; (try dsimp only at hSw); go_simp; try with_reducible rfl
  simp only [Act.put, List.setIfInBounds_toArray, List.set_cons_zero, List.set_cons_succ]
  -- 10: block.go:34 slot 26 := Op.load 27 t25
  refine wpAnyH_take (i := 10) (oi := ⟨some 26, _, _, _, _, _⟩) (v := ?_) rfl (by kernel_rfl) (by kernel_rfl) (by kernel_rfl) (fun _ _ _ h => h) (Or.inl ⟨by rfl, ?_⟩) (by assumption) ?_
  rotate_left 1
  · intro w hSw; (try dsimp only at hSw); go_simp; try with_reducible rfl
  simp only [Act.put, List.setIfInBounds_toArray, List.set_cons_zero, List.set_cons_succ]
  -- 11: block.go:34 slot 27 := Op.convert 27 56 t26
  refine wpAnyH_take (i := 11) (oi := ⟨some 27, _, _, _, _, _⟩) (v := ?_) rfl (by kernel_rfl) (by kernel_rfl) (by kernel_rfl) (fun _ _ _ h => h) (Or.inl ⟨by rfl, ?_⟩) (by assumption) ?_
  rotate_left 1
  · intro w hSw; (try dsimp only at hSw); go_simp; try with_reducible rfl
  simp only [Act.put, List.setIfInBounds_toArray, List.set_cons_zero, List.set_cons_succ]
  -- 4: block.go:34 slot 20 := Op.call { value (Operand.func 67), args := #[t16, t19, const (4:i64)], argTypes := #[22, 56, 3] }
  refine wpAnyH_ready (rs := [4]) (by kernel_rfl) (by simp) ?_
  refine AllReadyH.cons (o := ⟨some 20, _, _, _, _, _⟩) rfl (fun K hK => ?_) AllReadyH.nil
  go_simp
  refine (put_calls _ (w.heap.size + 1) A3 68 c3 (leF 4 (h.ver % 4294967296).toNat ++ h.prev ++ h.root) h.time.toNat 4 (by omega) (by decide) (by decide) (by first | omega | (simp; omega)) (own_drew1 ho3) _ rfl _ (by omega) 72 (leF 4 (h.ver % 4294967296).toNat ++ h.prev ++ h.root ++ leF 4 h.time.toNat) rfl rfl).mono ?_
  rintro e w4 ⟨A4, c4, rfl, ho4, hg, hx⟩
  try go_wp2_with fail
  have hxx := hx.imp id (fun ⟨g, h1, h2⟩ => (⟨g, h1, h2⟩ : ∃ g, (Value.slice A4 72 c4).ownBlock = some g ∧ w3.heap.size ≤ g))
  have HX4 := Lib.hid hxx
  clear hxx
  have hG := grown_trans hHeld.2.2.2 hg
  have hs4 : w.heap.size + 1 ≤ w4.heap.size := by have := hG.size; omega
  refine hK.out _ _ ⟨cell_grown hG t1 hne3, cell_grown hG t2 hne3, cell_grown hG t3 hne3, hG⟩ (fun hHeld' => ?_)
  clear hHeld
  have hHeld := hHeld'
  clear hHeld'
  clear hG hg hx
  clear hK K
  try (simp only [Act.put, List.setIfInBounds_toArray, List.set_cons_zero, List.set_cons_succ])
  -- 8: block.go:34 slot 24 := Op.call { value (Operand.func 67), args := #[t20, t23, const (4:i64)], argTypes := #[22, 56, 3] }
  refine wpAnyH_ready (rs := [8]) (by kernel_rfl) (by simp) ?_
  refine AllReadyH.cons (o := ⟨some 24, _, _, _, _, _⟩) rfl (fun K hK => ?_) AllReadyH.nil
  go_simp
  refine (put_calls _ (w.heap.size + 1) A4 72 c4 (leF 4 (h.ver % 4294967296).toNat ++ h.prev ++ h.root ++ leF 4 h.time.toNat) h.bits.toNat 4 (by omega) (by decide) (by decide) (by first | omega | (simp; omega)) ho4 _ rfl _ (by omega) 76 (leF 4 (h.ver % 4294967296).toNat ++ h.prev ++ h.root ++ leF 4 h.time.toNat ++ leF 4 h.bits.toNat) rfl rfl).mono ?_
  rintro e w5 ⟨A5, c5, rfl, ho5, hg, hx⟩
  try go_wp2_with fail
  have hxx := own_chain HX4.out hHeld.2.2.2.size hx
  have HX5 := Lib.hid hxx
  clear hxx
  have hG := grown_chain hHeld.2.2.2 HX4.out hg
  have hs5 : w.heap.size + 1 ≤ w5.heap.size := by have := hG.size; omega
  refine hK.out _ _ ⟨cell_grown hG t1 hne3, cell_grown hG t2 hne3, cell_grown hG t3 hne3, hG⟩ (fun hHeld' => ?_)
  clear hHeld
  have hHeld := hHeld'
  clear hHeld'
  clear hG hg hx
  clear hK K
  try (simp only [Act.put, List.setIfInBounds_toArray, List.set_cons_zero, List.set_cons_succ])
  -- 12: block.go:34 slot 28 := Op.call { value (Operand.func 67), args := #[t24, t27, const (4:i64)], argTypes := #[22, 56, 3] }
  refine wpAnyH_ready (rs := [12]) (by kernel_rfl) (by simp) ?_
  refine AllReadyH.cons (o := ⟨some 28, _, _, _, _, _⟩) rfl (fun K hK => ?_) AllReadyH.nil
  go_simp
  refine (put_calls _ (w.heap.size + 1) A5 76 c5 (leF 4 (h.ver % 4294967296).toNat ++ h.prev ++ h.root ++ leF 4 h.time.toNat ++ leF 4 h.bits.toNat) h.nonce.toNat 4 (by omega) (by decide) (by decide) (by first | omega | (simp; omega)) ho5 _ rfl _ (by omega) 80 (leF 4 (h.ver % 4294967296).toNat ++ h.prev ++ h.root ++ leF 4 h.time.toNat ++ leF 4 h.bits.toNat ++ leF 4 h.nonce.toNat) rfl rfl).mono ?_
  rintro e w6 ⟨A6, c6, rfl, ho6, hg, hx⟩
  try go_wp2_with fail
  have hxx := own_chain HX5.out hHeld.2.2.2.size hx
  have HX6 := Lib.hid hxx
  clear hxx
  have hG := grown_chain hHeld.2.2.2 HX5.out hg
  have hs6 : w.heap.size + 1 ≤ w6.heap.size := by have := hG.size; omega
  refine hK.out _ _ ⟨cell_grown hG t1 hne3, cell_grown hG t2 hne3, cell_grown hG t3 hne3, hG⟩ (fun hHeld' => ?_)
  clear hHeld
  have hHeld := hHeld'
  clear hHeld'
  clear hG hg hx
  clear hK K
  try (simp only [Act.put, List.setIfInBounds_toArray, List.set_cons_zero, List.set_cons_succ])
  -- 13: block.go:34 slot 2 := Op.assign t28
  refine wpAnyH_take (i := 13) (oi := ⟨some 2, _, _, _, _, _⟩) (v := ?_) rfl (by kernel_rfl) (by kernel_rfl) (by kernel_rfl) (fun _ _ _ h => h) (Or.inl ⟨by rfl, ?_⟩) (by assumption) ?_
  rotate_left 1
  · intro w hSw; (try dsimp only at hSw); go_simp; try with_reducible rfl
  simp only [Act.put, List.setIfInBounds_toArray, List.set_cons_zero, List.set_cons_succ]
  refine wpAnyH_done (by kernel_rfl) ?_ _
  refine NoPanic.normal ?_
  have hB6 : Below w.heap.size w w6 := hB3.grown hHeld.2.2.2 hB3.size (fun q hq => by have := hl3.out q hq; omega)
  clear hHeld hB3 t1 t2 t3 g3
  go_wp2
  go_ret
  exact ⟨A6, c6, rfl, own_mono ho6 (by omega), hB6⟩
set_option maxHeartbeats 1000000 in
theorem id_calls (w : World) (hT : Tabs w) (h : Hd) (hk : h.Ok) :
    Calls Tryd.prog 23 #[.agg h.cells.toArray] w fun e w' => e = .returned (.agg (nums .u8 (dblF (hbF h))).toArray) ∧ Below w.heap.size w w' := by
  have hd := dblF_length (hbF h)
  have g0 : ((w.alloc (.cells h.cells.toArray 37)).alloc (.cells (nums .u8 zeros32).toArray 24)).heap[w.heap.size]? = some (.cells h.cells.toArray 37) := heap_alloc2_old _ _ _
  have g1 : ((w.alloc (.cells h.cells.toArray 37)).alloc (.cells (nums .u8 zeros32).toArray 24)).heap[w.heap.size + 1]? = some (.cells (nums .u8 zeros32).toArray 24) := heap_alloc2_new _ _ _
  have hb0 : Below w.heap.size w ((w.alloc (.cells h.cells.toArray 37)).alloc (.cells (nums .u8 zeros32).toArray 24)) := ((Below.refl _ _).alloc (Nat.le_refl _) _).alloc (by simp) _
  have hT0 := hT.below hb0
  go_enter Tryd.func23, Tryd.ntmps23
  go_wp2_with (first | (refine wpList_load_row rfl 37 (.tmp 1) rfl w.heap.size rfl 37 _ _ _ g0 Tryd.underlying37 rfl (info_hd h hk) ?_))
  refine (bytes_calls _ h hk).mono ?_
  rintro e w1 ⟨A1, c1, rfl, ho1, hb1⟩
  have hT1 := hT0.below hb1
  have g11 := heap_below hb1 g1
  have b01 := below_then hb0 hb0.size hb1
  have hm1 := Rd.of_own ho1
  have hc1 := (own_le ho1).1
  clear g0 g1 hb0 hT0 ho1 hb1
  go_wp2_with fail
  refine (double_calls A1 80 c1 (hbF h) _ (by decide) hc1 (hbF_bytes hk) hm1 hT1).mono ?_
  rintro e w2 ⟨rfl, hb2⟩
  have g12 := heap_below hb2 g11
  have b02 := below_then b01 b01.size hb2
  clear hm1 hT1 g11 b01 hb2
  go_wp2_with (first | (refine wpList_store_any rfl 24 (.tmp 2) (.tmp 5) rfl (w.heap.size + 1) (nums .u8 (dblF (hbF h))).toArray rfl rfl 24 (nums .u8 zeros32).toArray g12 (info_h _ hd) (size_h _ hd) (nums_all _ _) ?_; intro w3 h3 ht3))
  refine bodyPost_ret (results_cell_row rfl _ _ (w.heap.size + 1) 24 (nums .u8 (dblF (hbF h))).toArray (0, 0) _ rfl h3 Tryd.underlying24 rfl (info_h _ hd)) rfl ⟨rfl, ht3.below b02 (by omega)⟩
end Go.Proofs.YtclkgflficlmiaaDoor
end

/-! ## Parse3 -/
section
set_option maxRecDepth 100000
set_option linter.unusedVariables false
namespace Go.Proofs.YtclkgflficlmiaaDoor
open Go Go.RowKit
section
variable {P : Program} {ops : Array Oper} {o : Oper} {a : Act} {K : Act → World → Prop} {Q : Exit → Act → World → Prop} {E : Prop} {w : World}
end
theorem Hd.setPrev {h : Hd} (k : h.Ok) (p : List Int) : h.cells.take 1 ++ nums .u8 p ++ h.cells.drop 33 = ({ h with prev := p } : Hd).cells := by
  rw [Hd.tail33 k]
  simp only [Hd.cells, List.take_succ_cons, List.take_zero, List.cons_append, List.nil_append]
theorem Hd.setRoot {h : Hd} (k : h.Ok) (r : List Int) : h.cells.take 33 ++ nums .u8 r ++ h.cells.drop 65 = ({ h with root := r } : Hd).cells := by
  rw [Hd.tail65 k]
  simp only [Hd.cells, List.take_succ_cons, List.cons_append]
  rw [List.take_append_of_le_length (by rw [nums_length, k.prev.1]; exact Nat.le_refl _), List.take_of_length_le (by rw [nums_length, k.prev.1]; exact Nat.le_refl _), List.append_assoc]
/-- The header that bytes begin with. -/
def parseF (bs : List Int) : Hd := ⟨IntKind.i32.wrap (ofLE (bs.take 4)), (bs.drop 4).take 32, (bs.drop 36).take 32, ofLE ((bs.drop 68).take 4), ofLE ((bs.drop 72).take 4), ofLE ((bs.drop 76).take 4)⟩
def parseM (bs : List Int) : Hd := ⟨IntKind.i32.wrap (ofLE (bs.take 4)), zeros32, zeros32, ofLE ((bs.drop 68).take 4), ofLE ((bs.drop 72).take 4), ofLE ((bs.drop 76).take 4)⟩
theorem parseM_ok (bs : List Int) (h : Bytes bs) : (parseM bs).Ok :=
  ⟨(wrap_i32_range _).1, (wrap_i32_range _).2, zeros32_dig, zeros32_dig, (le4t _ (h.drop _)).1, (le4t _ (h.drop _)).2, (le4t _ (h.drop _)).1, (le4t _ (h.drop _)).2, (le4t _ (h.drop _)).1, (le4t _ (h.drop _)).2⟩
theorem dig_cut (bs : List Int) (h : Bytes bs) (i : Nat) (hl : i + 32 ≤ bs.length) : Dig ((bs.drop i).take 32) := ⟨by rw [List.length_take, List.length_drop]; omega, (h.drop _).take _⟩
theorem parseF_ok (bs : List Int) (h : Bytes bs) (hl : 80 ≤ bs.length) : (parseF bs).Ok :=
  ⟨(wrap_i32_range _).1, (wrap_i32_range _).2, dig_cut bs h 4 (by omega), dig_cut bs h 36 (by omega), (le4t _ (h.drop _)).1, (le4t _ (h.drop _)).2, (le4t _ (h.drop _)).1, (le4t _ (h.drop _)).2, (le4t _ (h.drop _)).1, (le4t _ (h.drop _)).2⟩
theorem hd_sizes {h : Hd} (k : h.Ok) {h' : Hd} (k' : h'.Ok) : h.cells.toArray.size = h'.cells.toArray.size := by rw [List.size_toArray, List.size_toArray, Hd.length k, Hd.length k']
noncomputable def parseReg3 : Code := ((Tryd.f24.body.bind (findR 3)).getD .skip)
set_option maxHeartbeats 4000000 in
theorem parse_reg3 {u1 u4 u5 u6 u7 u8 u9 u10 u11 u12 u13 u14 u15 u16 u17 u18 u19 u20 u21 u22 u23 u24 u25 u26 u27 u28 u29 u30 u31 u32 u33 u34 u35 u36 u37 : Value} (wr : World) (b o n c : Nat) (g2 : Value) (bs : List Int) (hn : 80 ≤ n) (hnc : n ≤ c) (hcm : c ≤ maxLen) (hr : Rd wr (some ⟨b, o, none⟩) n (nums .u8 bs)) (hbs : Bytes bs) (Q0 : Exit → Act → World → Prop)
    (hexit : ∀ x9 x10 x11 x12 x13 x14 x15 x16 x17 x18 x19 x20 x21 x22 x23 x24 x25 x26 w3, w3.heap[wr.heap.size]? = some (.cells (parseM bs).cells.toArray 37) → Below wr.heap.size wr w3 → Q0 .normal ⟨#[.slice (some ⟨b, o, none⟩) n c, u1, g2, .int .i64 0, .pointer (some ⟨wr.heap.size, 0, none⟩), u5, u6, u7, u8, x9, x10, x11, x12, x13, x14, x15, x16, x17, x18, x19, x20, x21, x22, x23, x24, x25, x26, u27, u28, u29, u30, u31, u32, u33, u34, u35, u36, u37], []⟩ w3) :
    Code.wp Tryd.prog parseReg3 Q0 ⟨#[.slice (some ⟨b, o, none⟩) n c, u1, g2, .int .i64 0, u4, u5, u6, u7, u8, u9, u10, u11, u12, u13, u14, u15, u16, u17, u18, u19, u20, u21, u22, u23, u24, u25, u26, u27, u28, u29, u30, u31, u32, u33, u34, u35, u36, u37], []⟩ wr := by
  have HE := Lib.hid hexit
  clear hexit
  unfold maxLen at hcm
  have r0 : Rd wr (some ⟨b, o, none⟩) 4 (nums .u8 (bs.take 4)) := by have := hr.cut 0 4 (by omega); rwa [List.drop_zero, nums_take, Nat.add_zero] at this
  have r68 : Rd wr (some ⟨b, o + 68, none⟩) 4 (nums .u8 ((bs.drop 68).take 4)) := by have := hr.cut 68 4 (by omega); rwa [nums_drop, nums_take] at this
  have r72 : Rd wr (some ⟨b, o + 72, none⟩) 4 (nums .u8 ((bs.drop 72).take 4)) := by have := hr.cut 72 4 (by omega); rwa [nums_drop, nums_take] at this
  have r76 : Rd wr (some ⟨b, o + 76, none⟩) 4 (nums .u8 ((bs.drop 76).take 4)) := by have := hr.cut 76 4 (by omega); rwa [nums_drop, nums_take] at this
  have y0 := hbs.take 4
  have y68 := (hbs.drop 68).take 4
  have y72 := (hbs.drop 72).take 4
  have y76 := (hbs.drop 76).take 4
  have v0 : IntKind.u32.wrap (ofLE (bs.take 4)) = ofLE (bs.take 4) := by have := le4t bs hbs; rw [IntKind.wrap_u32]; omega
  have v68 : IntKind.u32.wrap (ofLE ((bs.drop 68).take 4)) = ofLE ((bs.drop 68).take 4) := by have := le4t _ (hbs.drop 68); rw [IntKind.wrap_u32]; omega
  have v72 : IntKind.u32.wrap (ofLE ((bs.drop 72).take 4)) = ofLE ((bs.drop 72).take 4) := by have := le4t _ (hbs.drop 72); rw [IntKind.wrap_u32]; omega
  have v76 : IntKind.u32.wrap (ofLE ((bs.drop 76).take 4)) = ofLE ((bs.drop 76).take 4) := by have := le4t _ (hbs.drop 76); rw [IntKind.wrap_u32]; omega
  have hcI : (80 : Int) ≤ (c : Int) := by omega
  have hc4 : (4 : Int) ≤ (c : Int) := by omega
  have hc72 : (72 : Int) ≤ (c : Int) := by omega
  have hc76 : (76 : Int) ≤ (c : Int) := by omega
  have e4 : ¬ c = 0 := by omega
  have e68 : ¬ c = 68 := by omega
  have e72 : ¬ c = 72 := by omega
  have e76 : ¬ c = 76 := by omega
  have hMok := parseM_ok bs hbs
  have hbd : Below wr.heap.size wr (wr.drew.alloc (.cells hd0.cells.toArray 37)) := (Below.drew (Below.refl _ _)).alloc (Nat.le_refl _) _
  have hMI := info_hd _ hMok
  have hMS : hd0.cells.toArray.size = (parseM bs).cells.toArray.size := hd_sizes hd0_ok hMok
  have hM1 := Hd.allOne (parseM bs)
  clear hbs hr
  conv => arg 2; whnf
  refine wp_region_noPanic ?_
  refine wp_region_held_drew (S := fun _ => True) (by kernel_rfl) trivial (fun hHeld => ?_)
  refine wpAnyH_take (i := 0) (oi := ⟨some 9, _, _, _, _, _⟩) (v := ?_) rfl (by kernel_rfl) (by kernel_rfl) (by kernel_rfl) (fun _ _ _ h => h) (Or.inl ⟨by rfl, ?_⟩) (by assumption) ?_
  rotate_left 1
  · intro w hSw; (try dsimp only at hSw); go_simp; try with_reducible rfl
  simp only [Act.put, List.setIfInBounds_toArray, List.set_cons_zero, List.set_cons_succ]
  refine wpAnyH_take (i := 1) (oi := ⟨some 10, _, _, _, _, _⟩) (v := ?_) rfl (by kernel_rfl) (by kernel_rfl) (by kernel_rfl) (fun _ _ _ h => h) (Or.inl ⟨by rfl, ?_⟩) (by assumption) ?_
  rotate_left 1
  · intro w hSw; (try dsimp only at hSw); go_simp; try with_reducible rfl
  simp only [Act.put, List.setIfInBounds_toArray, List.set_cons_zero, List.set_cons_succ]
  refine wpAnyH_take (i := 5) (oi := ⟨some 14, _, _, _, _, _⟩) (v := ?_) rfl (by kernel_rfl) (by kernel_rfl) (by kernel_rfl) (fun _ _ _ h => h) (Or.inl ⟨by rfl, ?_⟩) (by assumption) ?_
  rotate_left 1
  · intro w hSw; (try dsimp only at hSw); go_simp; try with_reducible rfl
  simp only [Act.put, List.setIfInBounds_toArray, List.set_cons_zero, List.set_cons_succ]
  refine wpAnyH_take (i := 6) (oi := ⟨some 15, _, _, _, _, _⟩) (v := ?_) rfl (by kernel_rfl) (by kernel_rfl) (by kernel_rfl) (fun _ _ _ h => h) (Or.inl ⟨by rfl, ?_⟩) (by assumption) ?_
  rotate_left 1
  · intro w hSw; (try dsimp only at hSw); go_simp; try with_reducible rfl
  simp only [Act.put, List.setIfInBounds_toArray, List.set_cons_zero, List.set_cons_succ]
  refine wpAnyH_take (i := 9) (oi := ⟨some 18, _, _, _, _, _⟩) (v := ?_) rfl (by kernel_rfl) (by kernel_rfl) (by kernel_rfl) (fun _ _ _ h => h) (Or.inl ⟨by rfl, ?_⟩) (by assumption) ?_
  rotate_left 1
  · intro w hSw; (try dsimp only at hSw); go_simp; try with_reducible rfl
  simp only [Act.put, List.setIfInBounds_toArray, List.set_cons_zero, List.set_cons_succ]
  refine wpAnyH_take (i := 10) (oi := ⟨some 19, _, _, _, _, _⟩) (v := ?_) rfl (by kernel_rfl) (by kernel_rfl) (by kernel_rfl) (fun _ _ _ h => h) (Or.inl ⟨by rfl, ?_⟩) (by assumption) ?_
  rotate_left 1
  · intro w hSw; (try dsimp only at hSw); go_simp; try with_reducible rfl
  simp only [Act.put, List.setIfInBounds_toArray, List.set_cons_zero, List.set_cons_succ]
  refine wpAnyH_take (i := 13) (oi := ⟨some 22, _, _, _, _, _⟩) (v := ?_) rfl (by kernel_rfl) (by kernel_rfl) (by kernel_rfl) (fun _ _ _ h => h) (Or.inl ⟨by rfl, ?_⟩) (by assumption) ?_
  rotate_left 1
  · intro w hSw; (try dsimp only at hSw); go_simp; try with_reducible rfl
  simp only [Act.put, List.setIfInBounds_toArray, List.set_cons_zero, List.set_cons_succ]
  refine wpAnyH_take (i := 14) (oi := ⟨some 23, _, _, _, _, _⟩) (v := ?_) rfl (by kernel_rfl) (by kernel_rfl) (by kernel_rfl) (fun _ _ _ h => h) (Or.inl ⟨by rfl, ?_⟩) (by assumption) ?_
  rotate_left 1
  · intro w hSw; (try dsimp only at hSw); go_simp; try with_reducible rfl
  simp only [Act.put, List.setIfInBounds_toArray, List.set_cons_zero, List.set_cons_succ]
  refine wpAnyH_ready (rs := [2, 18]) (by kernel_rfl) (by simp) ?_
  refine AllReadyH.cons (o := ⟨some 11, _, _, _, _, _⟩) rfl (fun K hK => ?_) (AllReadyH.cons (o := ⟨some 4, _, _, _, _, _⟩) rfl (fun K hK => ?_) AllReadyH.nil)
  · go_simp
    refine (lit_calls _ (some ⟨b, o, none⟩) 4 c (bs.take 4) (by decide) (Rd.drew1 r0) y0).mono ?_
    rintro e w' ⟨rfl, rfl⟩
    try go_wp2_with fail
    refine hK.out _ _ trivial (fun hHeld => ?_)
    clear hK K
    try (simp only [Act.put, List.setIfInBounds_toArray, List.set_cons_zero, List.set_cons_succ])
    refine wpAnyH_take (i := 3) (oi := ⟨some 12, _, _, _, _, _⟩) (v := ?_) rfl (by kernel_rfl) (by kernel_rfl) (by kernel_rfl) (fun _ _ _ h => h) (Or.inl ⟨by rfl, ?_⟩) (by assumption) ?_
    rotate_left 1
    · intro w hSw; (try dsimp only at hSw); go_simp; try with_reducible rfl
    simp only [Act.put, List.setIfInBounds_toArray, List.set_cons_zero, List.set_cons_succ]
    refine wpAnyH_take (i := 4) (oi := ⟨some 13, _, _, _, _, _⟩) (v := ?_) rfl (by kernel_rfl) (by kernel_rfl) (by kernel_rfl) (fun _ _ _ h => h) (Or.inl ⟨by rfl, ?_⟩) (by assumption) ?_
    rotate_left 1
    · intro w hSw; (try dsimp only at hSw); go_simp; try with_reducible rfl
    simp only [Act.put, List.setIfInBounds_toArray, List.set_cons_zero, List.set_cons_succ]
    refine wpAnyH_ready (rs := [7, 18]) (by kernel_rfl) (by simp) ?_
    refine AllReadyH.cons (o := ⟨some 16, _, _, _, _, _⟩) rfl (fun K hK => ?_) (AllReadyH.cons (o := ⟨some 4, _, _, _, _, _⟩) rfl (fun K hK => ?_) AllReadyH.nil)
    · go_simp
      refine (lit_calls _ (some ⟨b, o + 68, none⟩) 4 (c - 68) ((bs.drop 68).take 4) (by decide) (Rd.drew1 r68) y68).mono ?_
      rintro e w' ⟨rfl, rfl⟩
      try go_wp2_with fail
      refine hK.out _ _ trivial (fun hHeld => ?_)
      clear hK K
      try (simp only [Act.put, List.setIfInBounds_toArray, List.set_cons_zero, List.set_cons_succ])
      refine wpAnyH_take (i := 8) (oi := ⟨some 17, _, _, _, _, _⟩) (v := ?_) rfl (by kernel_rfl) (by kernel_rfl) (by kernel_rfl) (fun _ _ _ h => h) (Or.inl ⟨by rfl, ?_⟩) (by assumption) ?_
      rotate_left 1
      · intro w hSw; (try dsimp only at hSw); go_simp; try with_reducible rfl
      simp only [Act.put, List.setIfInBounds_toArray, List.set_cons_zero, List.set_cons_succ]
      refine wpAnyH_ready (rs := [11, 18]) (by kernel_rfl) (by simp) ?_
      refine AllReadyH.cons (o := ⟨some 20, _, _, _, _, _⟩) rfl (fun K hK => ?_) (AllReadyH.cons (o := ⟨some 4, _, _, _, _, _⟩) rfl (fun K hK => ?_) AllReadyH.nil)
      · go_simp
        refine (lit_calls _ (some ⟨b, o + 72, none⟩) 4 (c - 72) ((bs.drop 72).take 4) (by decide) (Rd.drew1 r72) y72).mono ?_
        rintro e w' ⟨rfl, rfl⟩
        try go_wp2_with fail
        refine hK.out _ _ trivial (fun hHeld => ?_)
        clear hK K
        try (simp only [Act.put, List.setIfInBounds_toArray, List.set_cons_zero, List.set_cons_succ])
        refine wpAnyH_take (i := 12) (oi := ⟨some 21, _, _, _, _, _⟩) (v := ?_) rfl (by kernel_rfl) (by kernel_rfl) (by kernel_rfl) (fun _ _ _ h => h) (Or.inl ⟨by rfl, ?_⟩) (by assumption) ?_
        rotate_left 1
        · intro w hSw; (try dsimp only at hSw); go_simp; try with_reducible rfl
        simp only [Act.put, List.setIfInBounds_toArray, List.set_cons_zero, List.set_cons_succ]
        refine wpAnyH_ready (rs := [15, 18]) (by kernel_rfl) (by simp) ?_
        refine AllReadyH.cons (o := ⟨some 24, _, _, _, _, _⟩) rfl (fun K hK => ?_) (AllReadyH.cons (o := ⟨some 4, _, _, _, _, _⟩) rfl (fun K hK => ?_) AllReadyH.nil)
        · go_simp
          refine (lit_calls _ (some ⟨b, o + 76, none⟩) 4 (c - 76) ((bs.drop 76).take 4) (by decide) (Rd.drew1 r76) y76).mono ?_
          rintro e w' ⟨rfl, rfl⟩
          try go_wp2_with fail
          refine hK.out _ _ trivial (fun hHeld => ?_)
          clear hK K
          try (simp only [Act.put, List.setIfInBounds_toArray, List.set_cons_zero, List.set_cons_succ])
          refine wpAnyH_take (i := 16) (oi := ⟨some 25, _, _, _, _, _⟩) (v := ?_) rfl (by kernel_rfl) (by kernel_rfl) (by kernel_rfl) (fun _ _ _ h => h) (Or.inl ⟨by rfl, ?_⟩) (by assumption) ?_
          rotate_left 1
          · intro w hSw; (try dsimp only at hSw); go_simp; try with_reducible rfl
          simp only [Act.put, List.setIfInBounds_toArray, List.set_cons_zero, List.set_cons_succ]
          refine wpAnyH_take (i := 17) (oi := ⟨some 26, _, _, _, _, _⟩) (v := ?_) rfl (by kernel_rfl) (by kernel_rfl) (by kernel_rfl) (fun _ _ _ h => h) (Or.inl ⟨by rfl, ?_⟩) (by assumption) ?_
          rotate_left 1
          · intro w hSw; (try dsimp only at hSw); go_simp; try with_reducible rfl
          simp only [Act.put, List.setIfInBounds_toArray, List.set_cons_zero, List.set_cons_succ]
          refine wpAnyH_ready (rs := [18]) (by kernel_rfl) (by simp) ?_
          refine AllReadyH.cons (o := ⟨some 4, _, _, _, _, _⟩) rfl (fun K hK => ?_) AllReadyH.nil
          go_simp
          refine hK.out _ _ trivial (fun hHeld => ?_)
          clear hK K
          try (simp only [Act.put, List.setIfInBounds_toArray, List.set_cons_zero, List.set_cons_succ])
          refine wpAnyH_ready (rs := [19]) (by kernel_rfl) (by simp) ?_
          refine AllReadyH.cons (o := ⟨none, _, _, _, _, _⟩) rfl (fun K hK => ?_) AllReadyH.nil
          refine step_store_any (by rfl) 37 (.tmp 4) (.tmp 26) (by rfl) wr.heap.size (parseM bs).cells.toArray (by rfl) (by rfl) 37 hd0.cells.toArray (heap_alloc_new _ _) hMI hMS hM1 ?_
          intro w3 g3 ht3
          refine hK.out _ _ trivial (fun hHeld => ?_)
          clear hK K
          try (simp only [Act.put])
          refine wpAnyH_done (by kernel_rfl) ?_ _
          refine NoPanic.normal ?_
          exact HE.out _ _ _ _ _ _ _ _ _ _ _ _ _ _ _ _ _ _ w3 g3 (ht3.below hbd (Nat.le_refl _))
        · go_simp
          refine hK.out _ _ trivial (fun hHeld => ?_)
          clear hK K
          try (simp only [Act.put, List.setIfInBounds_toArray, List.set_cons_zero, List.set_cons_succ])
          refine wpAnyH_ready (rs := [15]) (by kernel_rfl) (by simp) ?_
          refine AllReadyH.cons (o := ⟨some 24, _, _, _, _, _⟩) rfl (fun K hK => ?_) AllReadyH.nil
          go_simp
          refine (lit_calls _ (some ⟨b, o + 76, none⟩) 4 (c - 76) ((bs.drop 76).take 4) (by decide) (Rd.alloc (Rd.drew1 r76) _) y76).mono ?_
          rintro e w' ⟨rfl, rfl⟩
          try go_wp2_with fail
          refine hK.out _ _ trivial (fun hHeld => ?_)
          clear hK K
          try (simp only [Act.put, List.setIfInBounds_toArray, List.set_cons_zero, List.set_cons_succ])
          refine wpAnyH_take (i := 16) (oi := ⟨some 25, _, _, _, _, _⟩) (v := ?_) rfl (by kernel_rfl) (by kernel_rfl) (by kernel_rfl) (fun _ _ _ h => h) (Or.inl ⟨by rfl, ?_⟩) (by assumption) ?_
          rotate_left 1
          · intro w hSw; (try dsimp only at hSw); go_simp; try with_reducible rfl
          simp only [Act.put, List.setIfInBounds_toArray, List.set_cons_zero, List.set_cons_succ]
          refine wpAnyH_take (i := 17) (oi := ⟨some 26, _, _, _, _, _⟩) (v := ?_) rfl (by kernel_rfl) (by kernel_rfl) (by kernel_rfl) (fun _ _ _ h => h) (Or.inl ⟨by rfl, ?_⟩) (by assumption) ?_
          rotate_left 1
          · intro w hSw; (try dsimp only at hSw); go_simp; try with_reducible rfl
          simp only [Act.put, List.setIfInBounds_toArray, List.set_cons_zero, List.set_cons_succ]
          refine wpAnyH_ready (rs := [19]) (by kernel_rfl) (by simp) ?_
          refine AllReadyH.cons (o := ⟨none, _, _, _, _, _⟩) rfl (fun K hK => ?_) AllReadyH.nil
          refine step_store_any (by rfl) 37 (.tmp 4) (.tmp 26) (by rfl) wr.heap.size (parseM bs).cells.toArray (by rfl) (by rfl) 37 hd0.cells.toArray (heap_alloc_new _ _) hMI hMS hM1 ?_
          intro w3 g3 ht3
          refine hK.out _ _ trivial (fun hHeld => ?_)
          clear hK K
          try (simp only [Act.put])
          refine wpAnyH_done (by kernel_rfl) ?_ _
          refine NoPanic.normal ?_
          exact HE.out _ _ _ _ _ _ _ _ _ _ _ _ _ _ _ _ _ _ w3 g3 (ht3.below hbd (Nat.le_refl _))
      · go_simp
        refine hK.out _ _ trivial (fun hHeld => ?_)
        clear hK K
        try (simp only [Act.put, List.setIfInBounds_toArray, List.set_cons_zero, List.set_cons_succ])
        refine wpAnyH_ready (rs := [11]) (by kernel_rfl) (by simp) ?_
        refine AllReadyH.cons (o := ⟨some 20, _, _, _, _, _⟩) rfl (fun K hK => ?_) AllReadyH.nil
        go_simp
        refine (lit_calls _ (some ⟨b, o + 72, none⟩) 4 (c - 72) ((bs.drop 72).take 4) (by decide) (Rd.alloc (Rd.drew1 r72) _) y72).mono ?_
        rintro e w' ⟨rfl, rfl⟩
        try go_wp2_with fail
        refine hK.out _ _ trivial (fun hHeld => ?_)
        clear hK K
        try (simp only [Act.put, List.setIfInBounds_toArray, List.set_cons_zero, List.set_cons_succ])
        refine wpAnyH_take (i := 12) (oi := ⟨some 21, _, _, _, _, _⟩) (v := ?_) rfl (by kernel_rfl) (by kernel_rfl) (by kernel_rfl) (fun _ _ _ h => h) (Or.inl ⟨by rfl, ?_⟩) (by assumption) ?_
        rotate_left 1
        · intro w hSw; (try dsimp only at hSw); go_simp; try with_reducible rfl
        simp only [Act.put, List.setIfInBounds_toArray, List.set_cons_zero, List.set_cons_succ]
        refine wpAnyH_ready (rs := [15]) (by kernel_rfl) (by simp) ?_
        refine AllReadyH.cons (o := ⟨some 24, _, _, _, _, _⟩) rfl (fun K hK => ?_) AllReadyH.nil
        go_simp
        refine (lit_calls _ (some ⟨b, o + 76, none⟩) 4 (c - 76) ((bs.drop 76).take 4) (by decide) (Rd.alloc (Rd.drew1 r76) _) y76).mono ?_
        rintro e w' ⟨rfl, rfl⟩
        try go_wp2_with fail
        refine hK.out _ _ trivial (fun hHeld => ?_)
        clear hK K
        try (simp only [Act.put, List.setIfInBounds_toArray, List.set_cons_zero, List.set_cons_succ])
        refine wpAnyH_take (i := 16) (oi := ⟨some 25, _, _, _, _, _⟩) (v := ?_) rfl (by kernel_rfl) (by kernel_rfl) (by kernel_rfl) (fun _ _ _ h => h) (Or.inl ⟨by rfl, ?_⟩) (by assumption) ?_
        rotate_left 1
        · intro w hSw; (try dsimp only at hSw); go_simp; try with_reducible rfl
        simp only [Act.put, List.setIfInBounds_toArray, List.set_cons_zero, List.set_cons_succ]
        refine wpAnyH_take (i := 17) (oi := ⟨some 26, _, _, _, _, _⟩) (v := ?_) rfl (by kernel_rfl) (by kernel_rfl) (by kernel_rfl) (fun _ _ _ h => h) (Or.inl ⟨by rfl, ?_⟩) (by assumption) ?_
        rotate_left 1
        · intro w hSw; (try dsimp only at hSw); go_simp; try with_reducible rfl
        simp only [Act.put, List.setIfInBounds_toArray, List.set_cons_zero, List.set_cons_succ]
        refine wpAnyH_ready (rs := [19]) (by kernel_rfl) (by simp) ?_
        refine AllReadyH.cons (o := ⟨none, _, _, _, _, _⟩) rfl (fun K hK => ?_) AllReadyH.nil
        refine step_store_any (by rfl) 37 (.tmp 4) (.tmp 26) (by rfl) wr.heap.size (parseM bs).cells.toArray (by rfl) (by rfl) 37 hd0.cells.toArray (heap_alloc_new _ _) hMI hMS hM1 ?_
        intro w3 g3 ht3
        refine hK.out _ _ trivial (fun hHeld => ?_)
        clear hK K
        try (simp only [Act.put])
        refine wpAnyH_done (by kernel_rfl) ?_ _
        refine NoPanic.normal ?_
        exact HE.out _ _ _ _ _ _ _ _ _ _ _ _ _ _ _ _ _ _ w3 g3 (ht3.below hbd (Nat.le_refl _))
    · go_simp
      refine hK.out _ _ trivial (fun hHeld => ?_)
      clear hK K
      try (simp only [Act.put, List.setIfInBounds_toArray, List.set_cons_zero, List.set_cons_succ])
      refine wpAnyH_ready (rs := [7]) (by kernel_rfl) (by simp) ?_
      refine AllReadyH.cons (o := ⟨some 16, _, _, _, _, _⟩) rfl (fun K hK => ?_) AllReadyH.nil
      go_simp
      refine (lit_calls _ (some ⟨b, o + 68, none⟩) 4 (c - 68) ((bs.drop 68).take 4) (by decide) (Rd.alloc (Rd.drew1 r68) _) y68).mono ?_
      rintro e w' ⟨rfl, rfl⟩
      try go_wp2_with fail
      refine hK.out _ _ trivial (fun hHeld => ?_)
      clear hK K
      try (simp only [Act.put, List.setIfInBounds_toArray, List.set_cons_zero, List.set_cons_succ])
      refine wpAnyH_take (i := 8) (oi := ⟨some 17, _, _, _, _, _⟩) (v := ?_) rfl (by kernel_rfl) (by kernel_rfl) (by kernel_rfl) (fun _ _ _ h => h) (Or.inl ⟨by rfl, ?_⟩) (by assumption) ?_
      rotate_left 1
      · intro w hSw; (try dsimp only at hSw); go_simp; try with_reducible rfl
      simp only [Act.put, List.setIfInBounds_toArray, List.set_cons_zero, List.set_cons_succ]
      refine wpAnyH_ready (rs := [11]) (by kernel_rfl) (by simp) ?_
      refine AllReadyH.cons (o := ⟨some 20, _, _, _, _, _⟩) rfl (fun K hK => ?_) AllReadyH.nil
      go_simp
      refine (lit_calls _ (some ⟨b, o + 72, none⟩) 4 (c - 72) ((bs.drop 72).take 4) (by decide) (Rd.alloc (Rd.drew1 r72) _) y72).mono ?_
      rintro e w' ⟨rfl, rfl⟩
      try go_wp2_with fail
      refine hK.out _ _ trivial (fun hHeld => ?_)
      clear hK K
      try (simp only [Act.put, List.setIfInBounds_toArray, List.set_cons_zero, List.set_cons_succ])
      refine wpAnyH_take (i := 12) (oi := ⟨some 21, _, _, _, _, _⟩) (v := ?_) rfl (by kernel_rfl) (by kernel_rfl) (by kernel_rfl) (fun _ _ _ h => h) (Or.inl ⟨by rfl, ?_⟩) (by assumption) ?_
      rotate_left 1
      · intro w hSw; (try dsimp only at hSw); go_simp; try with_reducible rfl
      simp only [Act.put, List.setIfInBounds_toArray, List.set_cons_zero, List.set_cons_succ]
      refine wpAnyH_ready (rs := [15]) (by kernel_rfl) (by simp) ?_
      refine AllReadyH.cons (o := ⟨some 24, _, _, _, _, _⟩) rfl (fun K hK => ?_) AllReadyH.nil
      go_simp
      refine (lit_calls _ (some ⟨b, o + 76, none⟩) 4 (c - 76) ((bs.drop 76).take 4) (by decide) (Rd.alloc (Rd.drew1 r76) _) y76).mono ?_
      rintro e w' ⟨rfl, rfl⟩
      try go_wp2_with fail
      refine hK.out _ _ trivial (fun hHeld => ?_)
      clear hK K
      try (simp only [Act.put, List.setIfInBounds_toArray, List.set_cons_zero, List.set_cons_succ])
      refine wpAnyH_take (i := 16) (oi := ⟨some 25, _, _, _, _, _⟩) (v := ?_) rfl (by kernel_rfl) (by kernel_rfl) (by kernel_rfl) (fun _ _ _ h => h) (Or.inl ⟨by rfl, ?_⟩) (by assumption) ?_
      rotate_left 1
      · intro w hSw; (try dsimp only at hSw); go_simp; try with_reducible rfl
      simp only [Act.put, List.setIfInBounds_toArray, List.set_cons_zero, List.set_cons_succ]
      refine wpAnyH_take (i := 17) (oi := ⟨some 26, _, _, _, _, _⟩) (v := ?_) rfl (by kernel_rfl) (by kernel_rfl) (by kernel_rfl) (fun _ _ _ h => h) (Or.inl ⟨by rfl, ?_⟩) (by assumption) ?_
      rotate_left 1
      · intro w hSw; (try dsimp only at hSw); go_simp; try with_reducible rfl
      simp only [Act.put, List.setIfInBounds_toArray, List.set_cons_zero, List.set_cons_succ]
      refine wpAnyH_ready (rs := [19]) (by kernel_rfl) (by simp) ?_
      refine AllReadyH.cons (o := ⟨none, _, _, _, _, _⟩) rfl (fun K hK => ?_) AllReadyH.nil
      refine step_store_any (by rfl) 37 (.tmp 4) (.tmp 26) (by rfl) wr.heap.size (parseM bs).cells.toArray (by rfl) (by rfl) 37 hd0.cells.toArray (heap_alloc_new _ _) hMI hMS hM1 ?_
      intro w3 g3 ht3
      refine hK.out _ _ trivial (fun hHeld => ?_)
      clear hK K
      try (simp only [Act.put])
      refine wpAnyH_done (by kernel_rfl) ?_ _
      refine NoPanic.normal ?_
      exact HE.out _ _ _ _ _ _ _ _ _ _ _ _ _ _ _ _ _ _ w3 g3 (ht3.below hbd (Nat.le_refl _))
  · go_simp
    refine hK.out _ _ trivial (fun hHeld => ?_)
    clear hK K
    try (simp only [Act.put, List.setIfInBounds_toArray, List.set_cons_zero, List.set_cons_succ])
    refine wpAnyH_ready (rs := [2]) (by kernel_rfl) (by simp) ?_
    refine AllReadyH.cons (o := ⟨some 11, _, _, _, _, _⟩) rfl (fun K hK => ?_) AllReadyH.nil
    go_simp
    refine (lit_calls _ (some ⟨b, o, none⟩) 4 c (bs.take 4) (by decide) (Rd.alloc (Rd.drew1 r0) _) y0).mono ?_
    rintro e w' ⟨rfl, rfl⟩
    try go_wp2_with fail
    refine hK.out _ _ trivial (fun hHeld => ?_)
    clear hK K
    try (simp only [Act.put, List.setIfInBounds_toArray, List.set_cons_zero, List.set_cons_succ])
    refine wpAnyH_take (i := 3) (oi := ⟨some 12, _, _, _, _, _⟩) (v := ?_) rfl (by kernel_rfl) (by kernel_rfl) (by kernel_rfl) (fun _ _ _ h => h) (Or.inl ⟨by rfl, ?_⟩) (by assumption) ?_
    rotate_left 1
    · intro w hSw; (try dsimp only at hSw); go_simp; try with_reducible rfl
    simp only [Act.put, List.setIfInBounds_toArray, List.set_cons_zero, List.set_cons_succ]
    refine wpAnyH_take (i := 4) (oi := ⟨some 13, _, _, _, _, _⟩) (v := ?_) rfl (by kernel_rfl) (by kernel_rfl) (by kernel_rfl) (fun _ _ _ h => h) (Or.inl ⟨by rfl, ?_⟩) (by assumption) ?_
    rotate_left 1
    · intro w hSw; (try dsimp only at hSw); go_simp; try with_reducible rfl
    simp only [Act.put, List.setIfInBounds_toArray, List.set_cons_zero, List.set_cons_succ]
    refine wpAnyH_ready (rs := [7]) (by kernel_rfl) (by simp) ?_
    refine AllReadyH.cons (o := ⟨some 16, _, _, _, _, _⟩) rfl (fun K hK => ?_) AllReadyH.nil
    go_simp
    refine (lit_calls _ (some ⟨b, o + 68, none⟩) 4 (c - 68) ((bs.drop 68).take 4) (by decide) (Rd.alloc (Rd.drew1 r68) _) y68).mono ?_
    rintro e w' ⟨rfl, rfl⟩
    try go_wp2_with fail
    refine hK.out _ _ trivial (fun hHeld => ?_)
    clear hK K
    try (simp only [Act.put, List.setIfInBounds_toArray, List.set_cons_zero, List.set_cons_succ])
    refine wpAnyH_take (i := 8) (oi := ⟨some 17, _, _, _, _, _⟩) (v := ?_) rfl (by kernel_rfl) (by kernel_rfl) (by kernel_rfl) (fun _ _ _ h => h) (Or.inl ⟨by rfl, ?_⟩) (by assumption) ?_
    rotate_left 1
    · intro w hSw; (try dsimp only at hSw); go_simp; try with_reducible rfl
    simp only [Act.put, List.setIfInBounds_toArray, List.set_cons_zero, List.set_cons_succ]
    refine wpAnyH_ready (rs := [11]) (by kernel_rfl) (by simp) ?_
    refine AllReadyH.cons (o := ⟨some 20, _, _, _, _, _⟩) rfl (fun K hK => ?_) AllReadyH.nil
    go_simp
    refine (lit_calls _ (some ⟨b, o + 72, none⟩) 4 (c - 72) ((bs.drop 72).take 4) (by decide) (Rd.alloc (Rd.drew1 r72) _) y72).mono ?_
    rintro e w' ⟨rfl, rfl⟩
    try go_wp2_with fail
    refine hK.out _ _ trivial (fun hHeld => ?_)
    clear hK K
    try (simp only [Act.put, List.setIfInBounds_toArray, List.set_cons_zero, List.set_cons_succ])
    refine wpAnyH_take (i := 12) (oi := ⟨some 21, _, _, _, _, _⟩) (v := ?_) rfl (by kernel_rfl) (by kernel_rfl) (by kernel_rfl) (fun _ _ _ h => h) (Or.inl ⟨by rfl, ?_⟩) (by assumption) ?_
    rotate_left 1
    · intro w hSw; (try dsimp only at hSw); go_simp; try with_reducible rfl
    simp only [Act.put, List.setIfInBounds_toArray, List.set_cons_zero, List.set_cons_succ]
    refine wpAnyH_ready (rs := [15]) (by kernel_rfl) (by simp) ?_
    refine AllReadyH.cons (o := ⟨some 24, _, _, _, _, _⟩) rfl (fun K hK => ?_) AllReadyH.nil
    go_simp
    refine (lit_calls _ (some ⟨b, o + 76, none⟩) 4 (c - 76) ((bs.drop 76).take 4) (by decide) (Rd.alloc (Rd.drew1 r76) _) y76).mono ?_
    rintro e w' ⟨rfl, rfl⟩
    try go_wp2_with fail
    refine hK.out _ _ trivial (fun hHeld => ?_)
    clear hK K
    try (simp only [Act.put, List.setIfInBounds_toArray, List.set_cons_zero, List.set_cons_succ])
    refine wpAnyH_take (i := 16) (oi := ⟨some 25, _, _, _, _, _⟩) (v := ?_) rfl (by kernel_rfl) (by kernel_rfl) (by kernel_rfl) (fun _ _ _ h => h) (Or.inl ⟨by rfl, ?_⟩) (by assumption) ?_
    rotate_left 1
    · intro w hSw; (try dsimp only at hSw); go_simp; try with_reducible rfl
    simp only [Act.put, List.setIfInBounds_toArray, List.set_cons_zero, List.set_cons_succ]
    refine wpAnyH_take (i := 17) (oi := ⟨some 26, _, _, _, _, _⟩) (v := ?_) rfl (by kernel_rfl) (by kernel_rfl) (by kernel_rfl) (fun _ _ _ h => h) (Or.inl ⟨by rfl, ?_⟩) (by assumption) ?_
    rotate_left 1
    · intro w hSw; (try dsimp only at hSw); go_simp; try with_reducible rfl
    simp only [Act.put, List.setIfInBounds_toArray, List.set_cons_zero, List.set_cons_succ]
    refine wpAnyH_ready (rs := [19]) (by kernel_rfl) (by simp) ?_
    refine AllReadyH.cons (o := ⟨none, _, _, _, _, _⟩) rfl (fun K hK => ?_) AllReadyH.nil
    refine step_store_any (by rfl) 37 (.tmp 4) (.tmp 26) (by rfl) wr.heap.size (parseM bs).cells.toArray (by rfl) (by rfl) 37 hd0.cells.toArray (heap_alloc_new _ _) hMI hMS hM1 ?_
    intro w3 g3 ht3
    refine hK.out _ _ trivial (fun hHeld => ?_)
    clear hK K
    try (simp only [Act.put])
    refine wpAnyH_done (by kernel_rfl) ?_ _
    refine NoPanic.normal ?_
    exact HE.out _ _ _ _ _ _ _ _ _ _ _ _ _ _ _ _ _ _ w3 g3 (ht3.below hbd (Nat.le_refl _))
end Go.Proofs.YtclkgflficlmiaaDoor
end

/-! ## Parse -/
section
set_option maxRecDepth 100000
set_option linter.unusedVariables false
namespace Go.Proofs.YtclkgflficlmiaaDoor
open Go Go.RowKit
set_option maxHeartbeats 1000000 in
theorem parse_short (w : World) (A : Option Addr) (n c : Nat) (hn : n < 80) :
    Calls Tryd.prog 24 #[.slice A n c] w fun e w' => e = .returned (.tuple #[.agg hd0.cells.toArray, .int .i64 8]) ∧ Below w.heap.size w w' := by
  have hlt : (n : Int) < 80 := by omega
  have g0 := heap_alloc_new w (.cells hd0.cells.toArray 37)
  have hb0 : Below w.heap.size w (w.alloc (.cells hd0.cells.toArray 37)) := (Below.refl _ _).alloc (Nat.le_refl _) _
  go_enter Tryd.func24, Tryd.ntmps24
  go_wp2_with (first | (refine wpList_store_any rfl 37 (.tmp 2) (.tmp 8) rfl w.heap.size hd0.cells.toArray rfl rfl 37 hd0.cells.toArray g0 (info_hd hd0 hd0_ok) rfl (Hd.allOne hd0) ?_; intro w1 h1 ht1))
  exact bodyPost_ret (results_cell_tmp rfl _ _ w.heap.size 37 hd0.cells.toArray (0, 0) _ rfl h1 Tryd.underlying37 rfl (info_hd hd0 hd0_ok)) rfl ⟨rfl, ht1.below hb0 (Nat.le_refl _)⟩
theorem Rd.turned {w w' : World} {g b o n : Nat} {xs : List Value} (h : Rd w (some ⟨b, o, none⟩) n xs) (ht : Turned w g w') (hne : b ≠ g) : Rd w' (some ⟨b, o, none⟩) n xs := by
  refine ⟨h.1, fun hn => ?_⟩
  obtain ⟨b', o', e, hc⟩ := h.2 hn
  injection e with e
  injection e with e1 e2
  subst e1 e2
  exact ⟨b, o, rfl, fun j u hu => (cell_move (ht.block b hne)).trans (hc j u hu)⟩
theorem copy_hd (w : World) (g off b o m c : Nat) (cur : Array Value) (xs : List Int) (hg : w.heap[g]? = some (.cells cur 37)) (hfit : off + 32 ≤ cur.size) (hr : Rd w (some ⟨b, o, none⟩) 32 (nums .u8 xs)) (hm : 32 ≤ m) (ty : TypeId) :
    ∃ w', (Builtin.copy_ #[22, 22] ty #[.slice (some ⟨g, off, none⟩) 32 32, .slice (some ⟨b, o, none⟩) m c]).run Tryd.prog w = .ok (.int .i64 32) w' ∧ w'.heap[g]? = some (.cells (cur.toList.take off ++ nums .u8 xs ++ cur.toList.drop (off + 32)).toArray 37) ∧ Turned w g w' := by
  obtain ⟨b', o', e, hc⟩ := hr.2 (by decide)
  injection e with e
  injection e with e1 e2
  subst e1 e2
  have hl := hr.1
  have hmin : (nums .u8 xs).length = Nat.min m 32 := by rw [hl]; exact (Nat.min_eq_right hm).symm
  have := run_copy_row (P := Tryd.prog) w 22 22 ty 5 g off 32 32 ⟨b, o, none⟩ m c cur 37 (nums .u8 xs) Tryd.underlying22 info_u8 hg hmin
    (fun j v hv => by rw [add_plain']; exact hc j v hv) (by rw [hl]; exact hfit) (nums_one _ _)
  rw [hl] at this
  exact ⟨_, this, setRow_heap _ _ _ _ _ _ hg, turned_setRow w g _⟩
set_option maxHeartbeats 2000000 in
theorem parse_calls (w : World) (b o n c : Nat) (bs : List Int) (hn : 80 ≤ n) (hnc : n ≤ c) (hcm : c ≤ maxLen) (hr : Rd w (some ⟨b, o, none⟩) n (nums .u8 bs)) (hbs : Bytes bs) :
    Calls Tryd.prog 24 #[.slice (some ⟨b, o, none⟩) n c] w fun e w' => e = .returned (.tuple #[.agg (parseF bs).cells.toArray, .int .i64 0]) ∧ Below w.heap.size w w' := by
  have hl : bs.length = n := by have := hr.1; rwa [nums_length] at this
  have hge : ¬ (n : Int) < 80 := by omega
  have hcm' := hcm
  unfold maxLen at hcm'
  have hFok := parseF_ok bs hbs (by omega)
  have hMok := parseM_ok bs hbs
  have g0 := heap_alloc_new w (.cells hd0.cells.toArray 37)
  have hb0 : Below w.heap.size w (w.alloc (.cells hd0.cells.toArray 37)) := (Below.refl _ _).alloc (Nat.le_refl _) _
  have hr0 := hr.alloc (.cells hd0.cells.toArray 37)
  have hlt : b < w.heap.size := by
    obtain ⟨b', o', e, hc⟩ := hr.2 (by omega)
    injection e with e
    injection e with e1 e2
    subst e1 e2
    exact World.block_lt_of_cell? w _ (hc 0 _ (nums_get .u8 bs 0 (by omega)))
  have HL := Lib.hid hl
  clear hl
  go_enter Tryd.func24, Tryd.ntmps24
  go_upto_region 3 with fail
  refine wp_gen (q := fun wi => wi.heap[w.heap.size]? = some (.cells hd0.cells.toArray 37) ∧ Below w.heap.size w wi ∧ Rd wi (some ⟨b, o, none⟩) n (nums .u8 bs)) ⟨g0, hb0, hr0⟩ (fun wi hw => ?_)
  clear g0 hb0 hr0
  obtain ⟨g0, hb0, hr0⟩ := hw
  have hbw : b < wi.heap.size := Nat.lt_of_lt_of_le hlt hb0.size
  refine parse_reg3 wi b o n c _ bs hn hnc hcm hr0 hbs _ ?_
  intro x9 x10 x11 x12 x13 x14 x15 x16 x17 x18 x19 x20 x21 x22 x23 x24 x25 x26 w3 g3 hb3
  have g03 := heap_below hb3 g0
  have b03 := below_then hb0 hb0.size hb3
  have hr3 := hr0.below hb3
  have hne : b ≠ wi.heap.size := by omega
  have hsz : w.heap.size < wi.heap.size := heap_lt g0
  have r4 : Rd w3 (some ⟨b, o + 4, none⟩) 32 (nums .u8 ((bs.drop 4).take 32)) := by have := hr3.cut 4 32 (by omega); rwa [nums_drop, nums_take] at this
  obtain ⟨w4, hcp4, g4, ht4⟩ := copy_hd w3.drew wi.heap.size 1 b (o + 4) (n - 4) (c - 4) _ _ g3 (by rw [List.size_toArray, Hd.length hMok]; decide) (Rd.drew1 r4) (by omega) 3
  rw [List.toList_toArray, Hd.setPrev hMok] at g4
  have hM4 : Hd.Ok { parseM bs with prev := (bs.drop 4).take 32 } := ⟨hMok.v0, hMok.v1, hFok.prev, hMok.root, hMok.t0, hMok.t1, hMok.b0, hMok.b1, hMok.n0, hMok.n1⟩
  have hr4 : Rd w4 (some ⟨b, o, none⟩) n (nums .u8 bs) := Rd.turned (Rd.drew1 hr3) ht4 hne
  have g04 := ht4.keep (show w3.drew.heap[w.heap.size]? = _ from g03) (by omega)
  have b04 : Below w.heap.size w w4 := ht4.below (Below.drew b03) (by omega)
  have hnI : (80 : Int) ≤ (n : Int) := by omega
  have hncI : (n : Int) ≤ (c : Int) := by omega
  have hn4 : (4 : Int) ≤ (n : Int) := by omega
  have hc4 : (4 : Int) ≤ (c : Int) := by omega
  have hn36 : (36 : Int) ≤ (n : Int) := by omega
  have hc36 : (36 : Int) ≤ (c : Int) := by omega
  have e4 : ¬ c = 4 := by omega
  have e36 : ¬ c = 36 := by omega
  clear hr3 hr0 g0 hb0 hb3 g3 ht4 g03 b03 r4
  go_upto_region 4 with fail
  refine wp_region_noPanic ?_
  refine wp_region_held_drew (S := fun _ => True) (by kernel_rfl) trivial (fun hHeld => ?_)
  -- 0: block.go:46 slot 27 := Op.fieldAddr 53 t4 1
  refine wpAnyH_take (i := 0) (oi := ⟨some 27, _, _, _, _, _⟩) (v := ?_) rfl (by kernel_rfl) (by kernel_rfl) (by kernel_rfl) (fun _ _ _ h => h) (Or.inl ⟨by rfl, ?_⟩) (by assumption) ?_
  rotate_left 1
  · intro w hSw; (try dsimp only at hSw); go_simp; try with_reducible rfl
  simp only [Act.put, List.setIfInBounds_toArray, List.set_cons_zero, List.set_cons_succ]
  -- 1: block.go:46 slot 28 := Op.slice 25 t27 none none none
  refine wpAnyH_take (i := 1) (oi := ⟨some 28, _, _, _, _, _⟩) (v := ?_) rfl (by kernel_rfl) (by kernel_rfl) (by kernel_rfl) (fun _ _ _ h => h) (Or.inl ⟨by rfl, ?_⟩) (by assumption) ?_
  rotate_left 1
  · intro w hSw; (try dsimp only at hSw); go_simp; try with_reducible rfl
  simp only [Act.put, List.setIfInBounds_toArray, List.set_cons_zero, List.set_cons_succ]
  -- 2: block.go:46 slot 29 := Op.move t0
  refine wpAnyH_take (i := 2) (oi := ⟨some 29, _, _, _, _, _⟩) (v := ?_) rfl (by kernel_rfl) (by kernel_rfl) (by kernel_rfl) (fun _ _ _ h => h) (Or.inl ⟨by rfl, ?_⟩) (by assumption) ?_
  rotate_left 1
  · intro w hSw; (try dsimp only at hSw); go_simp; try with_reducible rfl
  simp only [Act.put, List.setIfInBounds_toArray, List.set_cons_zero, List.set_cons_succ]
  -- 3: block.go:46 slot 30 := Op.slice 22 t29 (some (const (4:i64))) none none
  refine wpAnyH_take (i := 3) (oi := ⟨some 30, _, _, _, _, _⟩) (v := ?_) rfl (by kernel_rfl) (by kernel_rfl) (by kernel_rfl) (fun _ _ _ h => h) (Or.inl ⟨by rfl, ?_⟩) (by assumption) ?_
  rotate_left 1
  · intro w hSw; (try dsimp only at hSw); go_simp; try with_reducible rfl
  simp only [Act.put, List.setIfInBounds_toArray, List.set_cons_zero, List.set_cons_succ]
  -- 4: block.go:46 slot 31 := Op.call { builtin copy, args := #[t28, t30], argTypes := #[22, 22] }
  refine wpAnyH_ready (rs := [4]) (by kernel_rfl) (by simp) ?_
  refine AllReadyH.cons (o := ⟨some 31, _, _, _, _, _⟩) rfl (fun K hK => ?_) AllReadyH.nil
  refine step_copy (by rfl) (.tmp 28) (.tmp 30) 22 22 (by rfl) _ _ _ _ (by rfl) (by rfl) hcp4 ?_
  refine hK.out _ _ trivial (fun hHeld => ?_)
  clear hK K
  try (simp only [Act.put, List.setIfInBounds_toArray, List.set_cons_zero, List.set_cons_succ])
  refine wpAnyH_done (by kernel_rfl) ?_ _
  refine NoPanic.normal ?_
  clear hcp4
  have r36 : Rd w4 (some ⟨b, o + 36, none⟩) 32 (nums .u8 ((bs.drop 36).take 32)) := by have := hr4.cut 36 32 (by omega); rwa [nums_drop, nums_take] at this
  obtain ⟨w5, hcp5, g5, ht5⟩ := copy_hd w4.drew wi.heap.size 33 b (o + 36) (n - 36) (c - 36) _ _ g4 (by rw [List.size_toArray, Hd.length hM4]; decide) (Rd.drew1 r36) (by omega) 3
  rw [List.toList_toArray, Hd.setRoot hM4] at g5
  have g05 := ht5.keep (show w4.drew.heap[w.heap.size]? = _ from g04) (by omega)
  have b05 : Below w.heap.size w w5 := ht5.below (Below.drew b04) (by omega)
  clear hr4 g4 ht5 g04 b04 r36
  go_upto_region 5 with fail
  refine wp_region_noPanic ?_
  refine wp_region_held_drew (S := fun _ => True) (by kernel_rfl) trivial (fun hHeld => ?_)
  -- 0: block.go:47 slot 32 := Op.fieldAddr 53 t4 2
  refine wpAnyH_take (i := 0) (oi := ⟨some 32, _, _, _, _, _⟩) (v := ?_) rfl (by kernel_rfl) (by kernel_rfl) (by kernel_rfl) (fun _ _ _ h => h) (Or.inl ⟨by rfl, ?_⟩) (by assumption) ?_
  rotate_left 1
  · intro w hSw; (try dsimp only at hSw); go_simp; try with_reducible rfl
  simp only [Act.put, List.setIfInBounds_toArray, List.set_cons_zero, List.set_cons_succ]
  -- 1: block.go:47 slot 33 := Op.slice 25 t32 none none none
  refine wpAnyH_take (i := 1) (oi := ⟨some 33, _, _, _, _, _⟩) (v := ?_) rfl (by kernel_rfl) (by kernel_rfl) (by kernel_rfl) (fun _ _ _ h => h) (Or.inl ⟨by rfl, ?_⟩) (by assumption) ?_
  rotate_left 1
  · intro w hSw; (try dsimp only at hSw); go_simp; try with_reducible rfl
  simp only [Act.put, List.setIfInBounds_toArray, List.set_cons_zero, List.set_cons_succ]
  -- 2: block.go:47 slot 34 := Op.move t0
  refine wpAnyH_take (i := 2) (oi := ⟨some 34, _, _, _, _, _⟩) (v := ?_) rfl (by kernel_rfl) (by kernel_rfl) (by kernel_rfl) (fun _ _ _ h => h) (Or.inl ⟨by rfl, ?_⟩) (by assumption) ?_
  rotate_left 1
  · intro w hSw; (try dsimp only at hSw); go_simp; try with_reducible rfl
  simp only [Act.put, List.setIfInBounds_toArray, List.set_cons_zero, List.set_cons_succ]
  -- 3: block.go:47 slot 35 := Op.slice 22 t34 (some (const (36:i64))) none none
  refine wpAnyH_take (i := 3) (oi := ⟨some 35, _, _, _, _, _⟩) (v := ?_) rfl (by kernel_rfl) (by kernel_rfl) (by kernel_rfl) (fun _ _ _ h => h) (Or.inl ⟨by rfl, ?_⟩) (by assumption) ?_
  rotate_left 1
  · intro w hSw; (try dsimp only at hSw); go_simp; try with_reducible rfl
  simp only [Act.put, List.setIfInBounds_toArray, List.set_cons_zero, List.set_cons_succ]
  -- 4: block.go:47 slot 36 := Op.call { builtin copy, args := #[t33, t35], argTypes := #[22, 22] }
  refine wpAnyH_ready (rs := [4]) (by kernel_rfl) (by simp) ?_
  refine AllReadyH.cons (o := ⟨some 36, _, _, _, _, _⟩) rfl (fun K hK => ?_) AllReadyH.nil
  refine step_copy (by rfl) (.tmp 33) (.tmp 35) 22 22 (by rfl) _ _ _ _ (by rfl) (by rfl) hcp5 ?_
  refine hK.out _ _ trivial (fun hHeld => ?_)
  clear hK K
  try (simp only [Act.put, List.setIfInBounds_toArray, List.set_cons_zero, List.set_cons_succ])
  refine wpAnyH_done (by kernel_rfl) ?_ _
  refine NoPanic.normal ?_
  clear hcp5
  have hFI := info_hd _ hFok
  have hFS : hd0.cells.toArray.size = (parseF bs).cells.toArray.size := hd_sizes hd0_ok hFok
  have hF1 := Hd.allOne (parseF bs)
  have g6 : w5.heap[wi.heap.size]? = some (.cells (parseF bs).cells.toArray 37) := g5
  clear g5
  go_wp2_with (first | (refine wpList_load_row rfl 37 (.tmp 4) rfl wi.heap.size rfl 37 _ _ _ g6 Tryd.underlying37 rfl hFI ?_) | (refine wpList_store_any rfl 37 (.tmp 2) (.tmp 37) rfl w.heap.size (parseF bs).cells.toArray rfl rfl 37 hd0.cells.toArray g05 hFI hFS hF1 ?_; intro w6 h6 ht6))
  exact bodyPost_ret (results_cell_tmp rfl _ _ w.heap.size 37 (parseF bs).cells.toArray (0, 0) _ rfl h6 Tryd.underlying37 rfl hFI) rfl ⟨rfl, ht6.below b05 (Nat.le_refl _)⟩
end Go.Proofs.YtclkgflficlmiaaDoor
end

/-! ## EqHd -/
section
set_option maxRecDepth 100000
set_option linter.unusedVariables false
namespace Go.Proofs.YtclkgflficlmiaaDoor
open Go Go.RowKit
theorem part_hash (cs : List Value) (off : Nat) (x : List Int) (hx : (cs.drop off).take 32 = nums .u8 x) (W : World) : (part 24 cs.toArray off).run Tryd.prog W = .ok (.agg (nums .u8 x).toArray) W := by
  obtain ⟨i, hi, hs⟩ : ∃ i, Tryd.prog.info? 24 = some i ∧ i.size = 32 := by
    have h := info_hash
    cases h2 : Tryd.prog.info? 24 with
    | none => rw [h2] at h; cases h
    | some i => rw [h2] at h; exact ⟨i, rfl, by simpa using h⟩
  simp [part, isAgg, run_underlying Tryd.underlying24, sizeOf, typeInfo, hi, hs]
  exact hx
theorem part_cell (t : TypeId) (k : IntKind) (ht : Tryd.prog.underlying t = some (.int k)) (cs : List Value) (off : Nat) (v : Value) (hx : cs[off]? = some v) (W : World) : (part t cs.toArray off).run Tryd.prog W = .ok v W := by
  simp [part, isAgg, run_underlying ht, hx]
theorem eqHashN (d : Nat) (xs : List Int) (hx : xs.length = 32) (W : World) : (Op.equalIn (d + 2) 24 (.agg (nums .u8 xs).toArray) (.agg (nums .u8 xs).toArray)).run Tryd.prog W = .ok true W := by
  rw [run_equalIn_nums (P := Tryd.prog) W d 24 5 32 .u8 .u8 Tryd.underlying24 Tryd.underlying5 info_u8 xs xs hx hx, beq_self_eq_true]
theorem eq_hd (h : Hd) (k : h.Ok) (W : World) : (Op.equalIn 10000 37 (.agg h.cells.toArray) (.agg h.cells.toArray)).run Tryd.prog W = .ok true W := by
  rw [run_equalIn_struct W 9999 37 _ _ (by kernel_rfl) (by kernel_rfl)]
  have p0 := part_cell 21 .i32 Tryd.underlying21 h.cells 0 _ (Hd.at0 h)
  have p1 := part_hash h.cells 1 h.prev (Hd.drop1 k)
  have p2 := part_hash h.cells 33 h.root (Hd.drop33 k)
  have p3 := part_cell 26 .u32 Tryd.underlying26 h.cells 65 _ (Hd.at65 k)
  have p4 := part_cell 26 .u32 Tryd.underlying26 h.cells 66 _ (Hd.at66 k)
  have p5 := part_cell 26 .u32 Tryd.underlying26 h.cells 67 _ (Hd.at67 k)
  have e1 := eqHashN 9997 h.prev k.prev.1
  have e2 := eqHashN 9997 h.root k.root.1
  simp only [Program.fieldsOf, Tryd.underlying37]
  simp [Op.eqFields, p0, p1, p2, p3, p4, p5, e1, e2, run_equalIn_int _ 9998 _ _ _ _ _ Tryd.underlying21, run_equalIn_int _ 9998 _ _ _ _ _ Tryd.underlying26]
theorem parse_bytes (h : Hd) (k : h.Ok) (more : List Int) : parseF (hbF h ++ more) = h := by
  have h1 := leF_length 4 (h.ver % 4294967296).toNat
  have h2 := k.prev.1
  have h3 := k.root.1
  have h4 := leF_length 4 h.time.toNat
  have h5 := leF_length 4 h.bits.toNat
  have h6 := leF_length 4 h.nonce.toNat
  have d0 : (hbF h ++ more).take 4 = leF 4 (h.ver % 4294967296).toNat := by
    simp only [hbF, List.append_assoc]
    exact List.take_left' h1
  have e4 : (hbF h ++ more).drop 4 = h.prev ++ (h.root ++ (leF 4 h.time.toNat ++ (leF 4 h.bits.toNat ++ (leF 4 h.nonce.toNat ++ more)))) := by
    simp only [hbF, List.append_assoc]
    exact List.drop_left' h1
  have e36 : (hbF h ++ more).drop 36 = h.root ++ (leF 4 h.time.toNat ++ (leF 4 h.bits.toNat ++ (leF 4 h.nonce.toNat ++ more))) := by
    rw [show (36 : Nat) = 4 + 32 from rfl, ← List.drop_drop, e4]
    exact List.drop_left' h2
  have e68 : (hbF h ++ more).drop 68 = leF 4 h.time.toNat ++ (leF 4 h.bits.toNat ++ (leF 4 h.nonce.toNat ++ more)) := by
    rw [show (68 : Nat) = 36 + 32 from rfl, ← List.drop_drop, e36]
    exact List.drop_left' h3
  have e72 : (hbF h ++ more).drop 72 = leF 4 h.bits.toNat ++ (leF 4 h.nonce.toNat ++ more) := by
    rw [show (72 : Nat) = 68 + 4 from rfl, ← List.drop_drop, e68]
    exact List.drop_left' h4
  have e76 : (hbF h ++ more).drop 76 = leF 4 h.nonce.toNat ++ more := by
    rw [show (76 : Nat) = 72 + 4 from rfl, ← List.drop_drop, e72]
    exact List.drop_left' h5
  unfold parseF
  rw [d0, e4, e36, e68, e72, e76, List.take_left' h2, List.take_left' h3, List.take_left' h4, List.take_left' h5, List.take_left' h6, ofLE_leF, ofLE_leF, ofLE_leF, ofLE_leF, IntKind.wrap_i32]
  have := k.v0
  have := k.v1
  have := k.t0
  have := k.t1
  have := k.b0
  have := k.b1
  have := k.n0
  have := k.n1
  obtain ⟨v, p, r, t, b, n⟩ := h
  simp only [Hd.mk.injEq, true_and] at *
  refine ⟨?_, ?_, ?_, ?_⟩ <;> omega
end Go.Proofs.YtclkgflficlmiaaDoor
end
