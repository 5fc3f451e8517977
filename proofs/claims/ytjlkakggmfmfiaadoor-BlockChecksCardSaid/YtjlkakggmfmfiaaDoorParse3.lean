/- block.Parse: the header that bytes begin with. -/
import Derived.Test.YtjlkakggmfmfiaaDoorHBytes
import Derived.Laws.CopyRow
import Derived.Deep.CutBlock
set_option maxRecDepth 100000
set_option linter.unusedVariables false
namespace Go.Proofs.YtjlkakggmfmfiaaDoor
open Go Go.RowKit
section
variable {P : Program} {ops : Array Oper} {o : Oper} {a : Act} {K : Act → World → Prop} {Q : Exit → Act → World → Prop} {E : Prop} {w : World}
end
theorem Hd.setPrev {h : Hd} (k : h.Ok) (p : List Int) : h.cells.take 1 ++ nums .u8 p ++ h.cells.drop 33 = ({ h with prev := p } : Hd).cells := by
  rw [Hd.tail33 k]
  simp only [Hd.cells, List.take_succ_cons, List.take_zero, List.cons_append, List.nil_append]
theorem Hd.setRoot {h : Hd} (k : h.Ok) (r : List Int) : h.cells.take 33 ++ nums .u8 r ++ h.cells.drop 65 = ({ h with root := r } : Hd).cells := by
  rw [Hd.tail65 k]
  simp only [Hd.cells, List.take_succ_cons, List.cons_append]
  rw [List.take_append_of_le_length (by rw [nums_length, k.prev.1]; exact Nat.le_refl _), List.take_of_length_le (by rw [nums_length, k.prev.1]; exact Nat.le_refl _), List.append_assoc]
/-- The header that bytes begin with. -/
def parseF (bs : List Int) : Hd := ⟨IntKind.i32.wrap (ofLE (bs.take 4)), (bs.drop 4).take 32, (bs.drop 36).take 32, ofLE ((bs.drop 68).take 4), ofLE ((bs.drop 72).take 4), ofLE ((bs.drop 76).take 4)⟩
def parseM (bs : List Int) : Hd := ⟨IntKind.i32.wrap (ofLE (bs.take 4)), zeros32, zeros32, ofLE ((bs.drop 68).take 4), ofLE ((bs.drop 72).take 4), ofLE ((bs.drop 76).take 4)⟩
theorem parseM_ok (bs : List Int) (h : Bytes bs) : (parseM bs).Ok :=
  ⟨(wrap_i32_range _).1, (wrap_i32_range _).2, zeros32_dig, zeros32_dig, (le4t _ (h.drop _)).1, (le4t _ (h.drop _)).2, (le4t _ (h.drop _)).1, (le4t _ (h.drop _)).2, (le4t _ (h.drop _)).1, (le4t _ (h.drop _)).2⟩
theorem dig_cut (bs : List Int) (h : Bytes bs) (i : Nat) (hl : i + 32 ≤ bs.length) : Dig ((bs.drop i).take 32) := ⟨by rw [List.length_take, List.length_drop]; omega, (h.drop _).take _⟩
theorem parseF_ok (bs : List Int) (h : Bytes bs) (hl : 80 ≤ bs.length) : (parseF bs).Ok :=
  ⟨(wrap_i32_range _).1, (wrap_i32_range _).2, dig_cut bs h 4 (by omega), dig_cut bs h 36 (by omega), (le4t _ (h.drop _)).1, (le4t _ (h.drop _)).2, (le4t _ (h.drop _)).1, (le4t _ (h.drop _)).2, (le4t _ (h.drop _)).1, (le4t _ (h.drop _)).2⟩
theorem hd_sizes {h : Hd} (k : h.Ok) {h' : Hd} (k' : h'.Ok) : h.cells.toArray.size = h'.cells.toArray.size := by rw [List.size_toArray, List.size_toArray, Hd.length k, Hd.length k']
noncomputable def parseReg3 : Code := ((Tryd.f37.body.bind (findR 3)).getD .skip)
set_option maxHeartbeats 4000000 in
theorem parse_reg3 {u1 u4 u5 u6 u7 u8 u9 u10 u11 u12 u13 u14 u15 u16 u17 u18 u19 u20 u21 u22 u23 u24 u25 u26 u27 u28 u29 u30 u31 u32 u33 u34 u35 u36 u37 : Value} (wr : World) (b o n c : Nat) (g2 : Value) (bs : List Int) (hn : 80 ≤ n) (hnc : n ≤ c) (hcm : c ≤ maxLen) (hr : Rd wr (some ⟨b, o, none⟩) n (nums .u8 bs)) (hbs : Bytes bs) (Q0 : Exit → Act → World → Prop)
    (hexit : ∀ x9 x10 x11 x12 x13 x14 x15 x16 x17 x18 x19 x20 x21 x22 x23 x24 x25 x26 w3, w3.heap[wr.heap.size]? = some (.cells (parseM bs).cells.toArray 53) → Below wr.heap.size wr w3 → Q0 .normal ⟨#[.slice (some ⟨b, o, none⟩) n c, u1, g2, .int .i64 0, .pointer (some ⟨wr.heap.size, 0, none⟩), u5, u6, u7, u8, x9, x10, x11, x12, x13, x14, x15, x16, x17, x18, x19, x20, x21, x22, x23, x24, x25, x26, u27, u28, u29, u30, u31, u32, u33, u34, u35, u36, u37], []⟩ w3) :
    Code.wp Tryd.prog parseReg3 Q0 ⟨#[.slice (some ⟨b, o, none⟩) n c, u1, g2, .int .i64 0, u4, u5, u6, u7, u8, u9, u10, u11, u12, u13, u14, u15, u16, u17, u18, u19, u20, u21, u22, u23, u24, u25, u26, u27, u28, u29, u30, u31, u32, u33, u34, u35, u36, u37], []⟩ wr := by
  have HE := Lib.hid hexit
  clear hexit
  unfold maxLen at hcm
  have r0 : Rd wr (some ⟨b, o, none⟩) 4 (nums .u8 (bs.take 4)) := by have := hr.cut 0 4 (by omega); rwa [List.drop_zero, nums_take, Nat.add_zero] at this
  have r68 : Rd wr (some ⟨b, o + 68, none⟩) 4 (nums .u8 ((bs.drop 68).take 4)) := by have := hr.cut 68 4 (by omega); rwa [nums_drop, nums_take] at this
  have r72 : Rd wr (some ⟨b, o + 72, none⟩) 4 (nums .u8 ((bs.drop 72).take 4)) := by have := hr.cut 72 4 (by omega); rwa [nums_drop, nums_take] at this
  have r76 : Rd wr (some ⟨b, o + 76, none⟩) 4 (nums .u8 ((bs.drop 76).take 4)) := by have := hr.cut 76 4 (by omega); rwa [nums_drop, nums_take] at this
  have y0 := hbs.take 4
  have y68 := (hbs.drop 68).take 4
  have y72 := (hbs.drop 72).take 4
  have y76 := (hbs.drop 76).take 4
  have v0 : IntKind.u32.wrap (ofLE (bs.take 4)) = ofLE (bs.take 4) := by have := le4t bs hbs; rw [IntKind.wrap_u32]; omega
  have v68 : IntKind.u32.wrap (ofLE ((bs.drop 68).take 4)) = ofLE ((bs.drop 68).take 4) := by have := le4t _ (hbs.drop 68); rw [IntKind.wrap_u32]; omega
  have v72 : IntKind.u32.wrap (ofLE ((bs.drop 72).take 4)) = ofLE ((bs.drop 72).take 4) := by have := le4t _ (hbs.drop 72); rw [IntKind.wrap_u32]; omega
  have v76 : IntKind.u32.wrap (ofLE ((bs.drop 76).take 4)) = ofLE ((bs.drop 76).take 4) := by have := le4t _ (hbs.drop 76); rw [IntKind.wrap_u32]; omega
  have hcI : (80 : Int) ≤ (c : Int) := by omega
  have hc4 : (4 : Int) ≤ (c : Int) := by omega
  have hc72 : (72 : Int) ≤ (c : Int) := by omega
  have hc76 : (76 : Int) ≤ (c : Int) := by omega
  have e4 : ¬ c = 0 := by omega
  have e68 : ¬ c = 68 := by omega
  have e72 : ¬ c = 72 := by omega
  have e76 : ¬ c = 76 := by omega
  have hMok := parseM_ok bs hbs
  have hbd : Below wr.heap.size wr (wr.drew.alloc (.cells hd0.cells.toArray 53)) := (Below.drew (Below.refl _ _)).alloc (Nat.le_refl _) _
  have hMI := info_hd _ hMok
  have hMS : hd0.cells.toArray.size = (parseM bs).cells.toArray.size := hd_sizes hd0_ok hMok
  have hM1 := Hd.allOne (parseM bs)
  clear hbs hr
  conv => arg 2; whnf
  refine wp_region_noPanic ?_
  refine wp_region_held_drew (S := fun _ => True) (by kernel_rfl) trivial (fun hHeld => ?_)
  refine wpAnyH_take (i := 0) (oi := ⟨some 9, _, _, _, _, _⟩) (v := ?_) rfl (by kernel_rfl) (by kernel_rfl) (by kernel_rfl) (fun _ _ _ h => h) (Or.inl ⟨by rfl, ?_⟩) (by assumption) ?_
  rotate_left 1
  · intro w hSw; (try dsimp only at hSw); go_simp; try with_reducible rfl
  simp only [Act.put, List.setIfInBounds_toArray, List.set_cons_zero, List.set_cons_succ]
  refine wpAnyH_take (i := 1) (oi := ⟨some 10, _, _, _, _, _⟩) (v := ?_) rfl (by kernel_rfl) (by kernel_rfl) (by kernel_rfl) (fun _ _ _ h => h) (Or.inl ⟨by rfl, ?_⟩) (by assumption) ?_
  rotate_left 1
  · intro w hSw; (try dsimp only at hSw); go_simp; try with_reducible rfl
  simp only [Act.put, List.setIfInBounds_toArray, List.set_cons_zero, List.set_cons_succ]
  refine wpAnyH_take (i := 5) (oi := ⟨some 14, _, _, _, _, _⟩) (v := ?_) rfl (by kernel_rfl) (by kernel_rfl) (by kernel_rfl) (fun _ _ _ h => h) (Or.inl ⟨by rfl, ?_⟩) (by assumption) ?_
  rotate_left 1
  · intro w hSw; (try dsimp only at hSw); go_simp; try with_reducible rfl
  simp only [Act.put, List.setIfInBounds_toArray, List.set_cons_zero, List.set_cons_succ]
  refine wpAnyH_take (i := 6) (oi := ⟨some 15, _, _, _, _, _⟩) (v := ?_) rfl (by kernel_rfl) (by kernel_rfl) (by kernel_rfl) (fun _ _ _ h => h) (Or.inl ⟨by rfl, ?_⟩) (by assumption) ?_
  rotate_left 1
  · intro w hSw; (try dsimp only at hSw); go_simp; try with_reducible rfl
  simp only [Act.put, List.setIfInBounds_toArray, List.set_cons_zero, List.set_cons_succ]
  refine wpAnyH_take (i := 9) (oi := ⟨some 18, _, _, _, _, _⟩) (v := ?_) rfl (by kernel_rfl) (by kernel_rfl) (by kernel_rfl) (fun _ _ _ h => h) (Or.inl ⟨by rfl, ?_⟩) (by assumption) ?_
  rotate_left 1
  · intro w hSw; (try dsimp only at hSw); go_simp; try with_reducible rfl
  simp only [Act.put, List.setIfInBounds_toArray, List.set_cons_zero, List.set_cons_succ]
  refine wpAnyH_take (i := 10) (oi := ⟨some 19, _, _, _, _, _⟩) (v := ?_) rfl (by kernel_rfl) (by kernel_rfl) (by kernel_rfl) (fun _ _ _ h => h) (Or.inl ⟨by rfl, ?_⟩) (by assumption) ?_
  rotate_left 1
  · intro w hSw; (try dsimp only at hSw); go_simp; try with_reducible rfl
  simp only [Act.put, List.setIfInBounds_toArray, List.set_cons_zero, List.set_cons_succ]
  refine wpAnyH_take (i := 13) (oi := ⟨some 22, _, _, _, _, _⟩) (v := ?_) rfl (by kernel_rfl) (by kernel_rfl) (by kernel_rfl) (fun _ _ _ h => h) (Or.inl ⟨by rfl, ?_⟩) (by assumption) ?_
  rotate_left 1
  · intro w hSw; (try dsimp only at hSw); go_simp; try with_reducible rfl
  simp only [Act.put, List.setIfInBounds_toArray, List.set_cons_zero, List.set_cons_succ]
  refine wpAnyH_take (i := 14) (oi := ⟨some 23, _, _, _, _, _⟩) (v := ?_) rfl (by kernel_rfl) (by kernel_rfl) (by kernel_rfl) (fun _ _ _ h => h) (Or.inl ⟨by rfl, ?_⟩) (by assumption) ?_
  rotate_left 1
  · intro w hSw; (try dsimp only at hSw); go_simp; try with_reducible rfl
  simp only [Act.put, List.setIfInBounds_toArray, List.set_cons_zero, List.set_cons_succ]
  refine wpAnyH_ready (rs := [2, 18]) (by kernel_rfl) (by simp) ?_
  refine AllReadyH.cons (o := ⟨some 11, _, _, _, _, _⟩) rfl (fun K hK => ?_) (AllReadyH.cons (o := ⟨some 4, _, _, _, _, _⟩) rfl (fun K hK => ?_) AllReadyH.nil)
  · go_simp
    refine (lit_calls _ (some ⟨b, o, none⟩) 4 c (bs.take 4) (by decide) (Rd.drew1 r0) y0).mono ?_
    rintro e w' ⟨rfl, rfl⟩
    try go_wp2_with fail
    refine hK.out _ _ trivial (fun hHeld => ?_)
    clear hK K
    try (simp only [Act.put, List.setIfInBounds_toArray, List.set_cons_zero, List.set_cons_succ])
    refine wpAnyH_take (i := 3) (oi := ⟨some 12, _, _, _, _, _⟩) (v := ?_) rfl (by kernel_rfl) (by kernel_rfl) (by kernel_rfl) (fun _ _ _ h => h) (Or.inl ⟨by rfl, ?_⟩) (by assumption) ?_
    rotate_left 1
    · intro w hSw; (try dsimp only at hSw); go_simp; try with_reducible rfl
    simp only [Act.put, List.setIfInBounds_toArray, List.set_cons_zero, List.set_cons_succ]
    refine wpAnyH_take (i := 4) (oi := ⟨some 13, _, _, _, _, _⟩) (v := ?_) rfl (by kernel_rfl) (by kernel_rfl) (by kernel_rfl) (fun _ _ _ h => h) (Or.inl ⟨by rfl, ?_⟩) (by assumption) ?_
    rotate_left 1
    · intro w hSw; (try dsimp only at hSw); go_simp; try with_reducible rfl
    simp only [Act.put, List.setIfInBounds_toArray, List.set_cons_zero, List.set_cons_succ]
    refine wpAnyH_ready (rs := [7, 18]) (by kernel_rfl) (by simp) ?_
    refine AllReadyH.cons (o := ⟨some 16, _, _, _, _, _⟩) rfl (fun K hK => ?_) (AllReadyH.cons (o := ⟨some 4, _, _, _, _, _⟩) rfl (fun K hK => ?_) AllReadyH.nil)
    · go_simp
      refine (lit_calls _ (some ⟨b, o + 68, none⟩) 4 (c - 68) ((bs.drop 68).take 4) (by decide) (Rd.drew1 r68) y68).mono ?_
      rintro e w' ⟨rfl, rfl⟩
      try go_wp2_with fail
      refine hK.out _ _ trivial (fun hHeld => ?_)
      clear hK K
      try (simp only [Act.put, List.setIfInBounds_toArray, List.set_cons_zero, List.set_cons_succ])
      refine wpAnyH_take (i := 8) (oi := ⟨some 17, _, _, _, _, _⟩) (v := ?_) rfl (by kernel_rfl) (by kernel_rfl) (by kernel_rfl) (fun _ _ _ h => h) (Or.inl ⟨by rfl, ?_⟩) (by assumption) ?_
      rotate_left 1
      · intro w hSw; (try dsimp only at hSw); go_simp; try with_reducible rfl
      simp only [Act.put, List.setIfInBounds_toArray, List.set_cons_zero, List.set_cons_succ]
      refine wpAnyH_ready (rs := [11, 18]) (by kernel_rfl) (by simp) ?_
      refine AllReadyH.cons (o := ⟨some 20, _, _, _, _, _⟩) rfl (fun K hK => ?_) (AllReadyH.cons (o := ⟨some 4, _, _, _, _, _⟩) rfl (fun K hK => ?_) AllReadyH.nil)
      · go_simp
        refine (lit_calls _ (some ⟨b, o + 72, none⟩) 4 (c - 72) ((bs.drop 72).take 4) (by decide) (Rd.drew1 r72) y72).mono ?_
        rintro e w' ⟨rfl, rfl⟩
        try go_wp2_with fail
        refine hK.out _ _ trivial (fun hHeld => ?_)
        clear hK K
        try (simp only [Act.put, List.setIfInBounds_toArray, List.set_cons_zero, List.set_cons_succ])
        refine wpAnyH_take (i := 12) (oi := ⟨some 21, _, _, _, _, _⟩) (v := ?_) rfl (by kernel_rfl) (by kernel_rfl) (by kernel_rfl) (fun _ _ _ h => h) (Or.inl ⟨by rfl, ?_⟩) (by assumption) ?_
        rotate_left 1
        · intro w hSw; (try dsimp only at hSw); go_simp; try with_reducible rfl
        simp only [Act.put, List.setIfInBounds_toArray, List.set_cons_zero, List.set_cons_succ]
        refine wpAnyH_ready (rs := [15, 18]) (by kernel_rfl) (by simp) ?_
        refine AllReadyH.cons (o := ⟨some 24, _, _, _, _, _⟩) rfl (fun K hK => ?_) (AllReadyH.cons (o := ⟨some 4, _, _, _, _, _⟩) rfl (fun K hK => ?_) AllReadyH.nil)
        · go_simp
          refine (lit_calls _ (some ⟨b, o + 76, none⟩) 4 (c - 76) ((bs.drop 76).take 4) (by decide) (Rd.drew1 r76) y76).mono ?_
          rintro e w' ⟨rfl, rfl⟩
          try go_wp2_with fail
          refine hK.out _ _ trivial (fun hHeld => ?_)
          clear hK K
          try (simp only [Act.put, List.setIfInBounds_toArray, List.set_cons_zero, List.set_cons_succ])
          refine wpAnyH_take (i := 16) (oi := ⟨some 25, _, _, _, _, _⟩) (v := ?_) rfl (by kernel_rfl) (by kernel_rfl) (by kernel_rfl) (fun _ _ _ h => h) (Or.inl ⟨by rfl, ?_⟩) (by assumption) ?_
          rotate_left 1
          · intro w hSw; (try dsimp only at hSw); go_simp; try with_reducible rfl
          simp only [Act.put, List.setIfInBounds_toArray, List.set_cons_zero, List.set_cons_succ]
          refine wpAnyH_take (i := 17) (oi := ⟨some 26, _, _, _, _, _⟩) (v := ?_) rfl (by kernel_rfl) (by kernel_rfl) (by kernel_rfl) (fun _ _ _ h => h) (Or.inl ⟨by rfl, ?_⟩) (by assumption) ?_
          rotate_left 1
          · intro w hSw; (try dsimp only at hSw); go_simp; try with_reducible rfl
          simp only [Act.put, List.setIfInBounds_toArray, List.set_cons_zero, List.set_cons_succ]
          refine wpAnyH_ready (rs := [18]) (by kernel_rfl) (by simp) ?_
          refine AllReadyH.cons (o := ⟨some 4, _, _, _, _, _⟩) rfl (fun K hK => ?_) AllReadyH.nil
          go_simp
          refine hK.out _ _ trivial (fun hHeld => ?_)
          clear hK K
          try (simp only [Act.put, List.setIfInBounds_toArray, List.set_cons_zero, List.set_cons_succ])
          refine wpAnyH_ready (rs := [19]) (by kernel_rfl) (by simp) ?_
          refine AllReadyH.cons (o := ⟨none, _, _, _, _, _⟩) rfl (fun K hK => ?_) AllReadyH.nil
          refine step_store_any (by rfl) 53 (.tmp 4) (.tmp 26) (by rfl) wr.heap.size (parseM bs).cells.toArray (by rfl) (by rfl) 53 hd0.cells.toArray (heap_alloc_new _ _) hMI hMS hM1 ?_
          intro w3 g3 ht3
          refine hK.out _ _ trivial (fun hHeld => ?_)
          clear hK K
          try (simp only [Act.put])
          refine wpAnyH_done (by kernel_rfl) ?_ _
          refine NoPanic.normal ?_
          exact HE.out _ _ _ _ _ _ _ _ _ _ _ _ _ _ _ _ _ _ w3 g3 (ht3.below hbd (Nat.le_refl _))
        · go_simp
          refine hK.out _ _ trivial (fun hHeld => ?_)
          clear hK K
          try (simp only [Act.put, List.setIfInBounds_toArray, List.set_cons_zero, List.set_cons_succ])
          refine wpAnyH_ready (rs := [15]) (by kernel_rfl) (by simp) ?_
          refine AllReadyH.cons (o := ⟨some 24, _, _, _, _, _⟩) rfl (fun K hK => ?_) AllReadyH.nil
          go_simp
          refine (lit_calls _ (some ⟨b, o + 76, none⟩) 4 (c - 76) ((bs.drop 76).take 4) (by decide) (Rd.alloc (Rd.drew1 r76) _) y76).mono ?_
          rintro e w' ⟨rfl, rfl⟩
          try go_wp2_with fail
          refine hK.out _ _ trivial (fun hHeld => ?_)
          clear hK K
          try (simp only [Act.put, List.setIfInBounds_toArray, List.set_cons_zero, List.set_cons_succ])
          refine wpAnyH_take (i := 16) (oi := ⟨some 25, _, _, _, _, _⟩) (v := ?_) rfl (by kernel_rfl) (by kernel_rfl) (by kernel_rfl) (fun _ _ _ h => h) (Or.inl ⟨by rfl, ?_⟩) (by assumption) ?_
          rotate_left 1
          · intro w hSw; (try dsimp only at hSw); go_simp; try with_reducible rfl
          simp only [Act.put, List.setIfInBounds_toArray, List.set_cons_zero, List.set_cons_succ]
          refine wpAnyH_take (i := 17) (oi := ⟨some 26, _, _, _, _, _⟩) (v := ?_) rfl (by kernel_rfl) (by kernel_rfl) (by kernel_rfl) (fun _ _ _ h => h) (Or.inl ⟨by rfl, ?_⟩) (by assumption) ?_
          rotate_left 1
          · intro w hSw; (try dsimp only at hSw); go_simp; try with_reducible rfl
          simp only [Act.put, List.setIfInBounds_toArray, List.set_cons_zero, List.set_cons_succ]
          refine wpAnyH_ready (rs := [19]) (by kernel_rfl) (by simp) ?_
          refine AllReadyH.cons (o := ⟨none, _, _, _, _, _⟩) rfl (fun K hK => ?_) AllReadyH.nil
          refine step_store_any (by rfl) 53 (.tmp 4) (.tmp 26) (by rfl) wr.heap.size (parseM bs).cells.toArray (by rfl) (by rfl) 53 hd0.cells.toArray (heap_alloc_new _ _) hMI hMS hM1 ?_
          intro w3 g3 ht3
          refine hK.out _ _ trivial (fun hHeld => ?_)
          clear hK K
          try (simp only [Act.put])
          refine wpAnyH_done (by kernel_rfl) ?_ _
          refine NoPanic.normal ?_
          exact HE.out _ _ _ _ _ _ _ _ _ _ _ _ _ _ _ _ _ _ w3 g3 (ht3.below hbd (Nat.le_refl _))
      · go_simp
        refine hK.out _ _ trivial (fun hHeld => ?_)
        clear hK K
        try (simp only [Act.put, List.setIfInBounds_toArray, List.set_cons_zero, List.set_cons_succ])
        refine wpAnyH_ready (rs := [11]) (by kernel_rfl) (by simp) ?_
        refine AllReadyH.cons (o := ⟨some 20, _, _, _, _, _⟩) rfl (fun K hK => ?_) AllReadyH.nil
        go_simp
        refine (lit_calls _ (some ⟨b, o + 72, none⟩) 4 (c - 72) ((bs.drop 72).take 4) (by decide) (Rd.alloc (Rd.drew1 r72) _) y72).mono ?_
        rintro e w' ⟨rfl, rfl⟩
        try go_wp2_with fail
        refine hK.out _ _ trivial (fun hHeld => ?_)
        clear hK K
        try (simp only [Act.put, List.setIfInBounds_toArray, List.set_cons_zero, List.set_cons_succ])
        refine wpAnyH_take (i := 12) (oi := ⟨some 21, _, _, _, _, _⟩) (v := ?_) rfl (by kernel_rfl) (by kernel_rfl) (by kernel_rfl) (fun _ _ _ h => h) (Or.inl ⟨by rfl, ?_⟩) (by assumption) ?_
        rotate_left 1
        · intro w hSw; (try dsimp only at hSw); go_simp; try with_reducible rfl
        simp only [Act.put, List.setIfInBounds_toArray, List.set_cons_zero, List.set_cons_succ]
        refine wpAnyH_ready (rs := [15]) (by kernel_rfl) (by simp) ?_
        refine AllReadyH.cons (o := ⟨some 24, _, _, _, _, _⟩) rfl (fun K hK => ?_) AllReadyH.nil
        go_simp
        refine (lit_calls _ (some ⟨b, o + 76, none⟩) 4 (c - 76) ((bs.drop 76).take 4) (by decide) (Rd.alloc (Rd.drew1 r76) _) y76).mono ?_
        rintro e w' ⟨rfl, rfl⟩
        try go_wp2_with fail
        refine hK.out _ _ trivial (fun hHeld => ?_)
        clear hK K
        try (simp only [Act.put, List.setIfInBounds_toArray, List.set_cons_zero, List.set_cons_succ])
        refine wpAnyH_take (i := 16) (oi := ⟨some 25, _, _, _, _, _⟩) (v := ?_) rfl (by kernel_rfl) (by kernel_rfl) (by kernel_rfl) (fun _ _ _ h => h) (Or.inl ⟨by rfl, ?_⟩) (by assumption) ?_
        rotate_left 1
        · intro w hSw; (try dsimp only at hSw); go_simp; try with_reducible rfl
        simp only [Act.put, List.setIfInBounds_toArray, List.set_cons_zero, List.set_cons_succ]
        refine wpAnyH_take (i := 17) (oi := ⟨some 26, _, _, _, _, _⟩) (v := ?_) rfl (by kernel_rfl) (by kernel_rfl) (by kernel_rfl) (fun _ _ _ h => h) (Or.inl ⟨by rfl, ?_⟩) (by assumption) ?_
        rotate_left 1
        · intro w hSw; (try dsimp only at hSw); go_simp; try with_reducible rfl
        simp only [Act.put, List.setIfInBounds_toArray, List.set_cons_zero, List.set_cons_succ]
        refine wpAnyH_ready (rs := [19]) (by kernel_rfl) (by simp) ?_
        refine AllReadyH.cons (o := ⟨none, _, _, _, _, _⟩) rfl (fun K hK => ?_) AllReadyH.nil
        refine step_store_any (by rfl) 53 (.tmp 4) (.tmp 26) (by rfl) wr.heap.size (parseM bs).cells.toArray (by rfl) (by rfl) 53 hd0.cells.toArray (heap_alloc_new _ _) hMI hMS hM1 ?_
        intro w3 g3 ht3
        refine hK.out _ _ trivial (fun hHeld => ?_)
        clear hK K
        try (simp only [Act.put])
        refine wpAnyH_done (by kernel_rfl) ?_ _
        refine NoPanic.normal ?_
        exact HE.out _ _ _ _ _ _ _ _ _ _ _ _ _ _ _ _ _ _ w3 g3 (ht3.below hbd (Nat.le_refl _))
    · go_simp
      refine hK.out _ _ trivial (fun hHeld => ?_)
      clear hK K
      try (simp only [Act.put, List.setIfInBounds_toArray, List.set_cons_zero, List.set_cons_succ])
      refine wpAnyH_ready (rs := [7]) (by kernel_rfl) (by simp) ?_
      refine AllReadyH.cons (o := ⟨some 16, _, _, _, _, _⟩) rfl (fun K hK => ?_) AllReadyH.nil
      go_simp
      refine (lit_calls _ (some ⟨b, o + 68, none⟩) 4 (c - 68) ((bs.drop 68).take 4) (by decide) (Rd.alloc (Rd.drew1 r68) _) y68).mono ?_
      rintro e w' ⟨rfl, rfl⟩
      try go_wp2_with fail
      refine hK.out _ _ trivial (fun hHeld => ?_)
      clear hK K
      try (simp only [Act.put, List.setIfInBounds_toArray, List.set_cons_zero, List.set_cons_succ])
      refine wpAnyH_take (i := 8) (oi := ⟨some 17, _, _, _, _, _⟩) (v := ?_) rfl (by kernel_rfl) (by kernel_rfl) (by kernel_rfl) (fun _ _ _ h => h) (Or.inl ⟨by rfl, ?_⟩) (by assumption) ?_
      rotate_left 1
      · intro w hSw; (try dsimp only at hSw); go_simp; try with_reducible rfl
      simp only [Act.put, List.setIfInBounds_toArray, List.set_cons_zero, List.set_cons_succ]
      refine wpAnyH_ready (rs := [11]) (by kernel_rfl) (by simp) ?_
      refine AllReadyH.cons (o := ⟨some 20, _, _, _, _, _⟩) rfl (fun K hK => ?_) AllReadyH.nil
      go_simp
      refine (lit_calls _ (some ⟨b, o + 72, none⟩) 4 (c - 72) ((bs.drop 72).take 4) (by decide) (Rd.alloc (Rd.drew1 r72) _) y72).mono ?_
      rintro e w' ⟨rfl, rfl⟩
      try go_wp2_with fail
      refine hK.out _ _ trivial (fun hHeld => ?_)
      clear hK K
      try (simp only [Act.put, List.setIfInBounds_toArray, List.set_cons_zero, List.set_cons_succ])
      refine wpAnyH_take (i := 12) (oi := ⟨some 21, _, _, _, _, _⟩) (v := ?_) rfl (by kernel_rfl) (by kernel_rfl) (by kernel_rfl) (fun _ _ _ h => h) (Or.inl ⟨by rfl, ?_⟩) (by assumption) ?_
      rotate_left 1
      · intro w hSw; (try dsimp only at hSw); go_simp; try with_reducible rfl
      simp only [Act.put, List.setIfInBounds_toArray, List.set_cons_zero, List.set_cons_succ]
      refine wpAnyH_ready (rs := [15]) (by kernel_rfl) (by simp) ?_
      refine AllReadyH.cons (o := ⟨some 24, _, _, _, _, _⟩) rfl (fun K hK => ?_) AllReadyH.nil
      go_simp
      refine (lit_calls _ (some ⟨b, o + 76, none⟩) 4 (c - 76) ((bs.drop 76).take 4) (by decide) (Rd.alloc (Rd.drew1 r76) _) y76).mono ?_
      rintro e w' ⟨rfl, rfl⟩
      try go_wp2_with fail
      refine hK.out _ _ trivial (fun hHeld => ?_)
      clear hK K
      try (simp only [Act.put, List.setIfInBounds_toArray, List.set_cons_zero, List.set_cons_succ])
      refine wpAnyH_take (i := 16) (oi := ⟨some 25, _, _, _, _, _⟩) (v := ?_) rfl (by kernel_rfl) (by kernel_rfl) (by kernel_rfl) (fun _ _ _ h => h) (Or.inl ⟨by rfl, ?_⟩) (by assumption) ?_
      rotate_left 1
      · intro w hSw; (try dsimp only at hSw); go_simp; try with_reducible rfl
      simp only [Act.put, List.setIfInBounds_toArray, List.set_cons_zero, List.set_cons_succ]
      refine wpAnyH_take (i := 17) (oi := ⟨some 26, _, _, _, _, _⟩) (v := ?_) rfl (by kernel_rfl) (by kernel_rfl) (by kernel_rfl) (fun _ _ _ h => h) (Or.inl ⟨by rfl, ?_⟩) (by assumption) ?_
      rotate_left 1
      · intro w hSw; (try dsimp only at hSw); go_simp; try with_reducible rfl
      simp only [Act.put, List.setIfInBounds_toArray, List.set_cons_zero, List.set_cons_succ]
      refine wpAnyH_ready (rs := [19]) (by kernel_rfl) (by simp) ?_
      refine AllReadyH.cons (o := ⟨none, _, _, _, _, _⟩) rfl (fun K hK => ?_) AllReadyH.nil
      refine step_store_any (by rfl) 53 (.tmp 4) (.tmp 26) (by rfl) wr.heap.size (parseM bs).cells.toArray (by rfl) (by rfl) 53 hd0.cells.toArray (heap_alloc_new _ _) hMI hMS hM1 ?_
      intro w3 g3 ht3
      refine hK.out _ _ trivial (fun hHeld => ?_)
      clear hK K
      try (simp only [Act.put])
      refine wpAnyH_done (by kernel_rfl) ?_ _
      refine NoPanic.normal ?_
      exact HE.out _ _ _ _ _ _ _ _ _ _ _ _ _ _ _ _ _ _ w3 g3 (ht3.below hbd (Nat.le_refl _))
  · go_simp
    refine hK.out _ _ trivial (fun hHeld => ?_)
    clear hK K
    try (simp only [Act.put, List.setIfInBounds_toArray, List.set_cons_zero, List.set_cons_succ])
    refine wpAnyH_ready (rs := [2]) (by kernel_rfl) (by simp) ?_
    refine AllReadyH.cons (o := ⟨some 11, _, _, _, _, _⟩) rfl (fun K hK => ?_) AllReadyH.nil
    go_simp
    refine (lit_calls _ (some ⟨b, o, none⟩) 4 c (bs.take 4) (by decide) (Rd.alloc (Rd.drew1 r0) _) y0).mono ?_
    rintro e w' ⟨rfl, rfl⟩
    try go_wp2_with fail
    refine hK.out _ _ trivial (fun hHeld => ?_)
    clear hK K
    try (simp only [Act.put, List.setIfInBounds_toArray, List.set_cons_zero, List.set_cons_succ])
    refine wpAnyH_take (i := 3) (oi := ⟨some 12, _, _, _, _, _⟩) (v := ?_) rfl (by kernel_rfl) (by kernel_rfl) (by kernel_rfl) (fun _ _ _ h => h) (Or.inl ⟨by rfl, ?_⟩) (by assumption) ?_
    rotate_left 1
    · intro w hSw; (try dsimp only at hSw); go_simp; try with_reducible rfl
    simp only [Act.put, List.setIfInBounds_toArray, List.set_cons_zero, List.set_cons_succ]
    refine wpAnyH_take (i := 4) (oi := ⟨some 13, _, _, _, _, _⟩) (v := ?_) rfl (by kernel_rfl) (by kernel_rfl) (by kernel_rfl) (fun _ _ _ h => h) (Or.inl ⟨by rfl, ?_⟩) (by assumption) ?_
    rotate_left 1
    · intro w hSw; (try dsimp only at hSw); go_simp; try with_reducible rfl
    simp only [Act.put, List.setIfInBounds_toArray, List.set_cons_zero, List.set_cons_succ]
    refine wpAnyH_ready (rs := [7]) (by kernel_rfl) (by simp) ?_
    refine AllReadyH.cons (o := ⟨some 16, _, _, _, _, _⟩) rfl (fun K hK => ?_) AllReadyH.nil
    go_simp
    refine (lit_calls _ (some ⟨b, o + 68, none⟩) 4 (c - 68) ((bs.drop 68).take 4) (by decide) (Rd.alloc (Rd.drew1 r68) _) y68).mono ?_
    rintro e w' ⟨rfl, rfl⟩
    try go_wp2_with fail
    refine hK.out _ _ trivial (fun hHeld => ?_)
    clear hK K
    try (simp only [Act.put, List.setIfInBounds_toArray, List.set_cons_zero, List.set_cons_succ])
    refine wpAnyH_take (i := 8) (oi := ⟨some 17, _, _, _, _, _⟩) (v := ?_) rfl (by kernel_rfl) (by kernel_rfl) (by kernel_rfl) (fun _ _ _ h => h) (Or.inl ⟨by rfl, ?_⟩) (by assumption) ?_
    rotate_left 1
    · intro w hSw; (try dsimp only at hSw); go_simp; try with_reducible rfl
    simp only [Act.put, List.setIfInBounds_toArray, List.set_cons_zero, List.set_cons_succ]
    refine wpAnyH_ready (rs := [11]) (by kernel_rfl) (by simp) ?_
    refine AllReadyH.cons (o := ⟨some 20, _, _, _, _, _⟩) rfl (fun K hK => ?_) AllReadyH.nil
    go_simp
    refine (lit_calls _ (some ⟨b, o + 72, none⟩) 4 (c - 72) ((bs.drop 72).take 4) (by decide) (Rd.alloc (Rd.drew1 r72) _) y72).mono ?_
    rintro e w' ⟨rfl, rfl⟩
    try go_wp2_with fail
    refine hK.out _ _ trivial (fun hHeld => ?_)
    clear hK K
    try (simp only [Act.put, List.setIfInBounds_toArray, List.set_cons_zero, List.set_cons_succ])
    refine wpAnyH_take (i := 12) (oi := ⟨some 21, _, _, _, _, _⟩) (v := ?_) rfl (by kernel_rfl) (by kernel_rfl) (by kernel_rfl) (fun _ _ _ h => h) (Or.inl ⟨by rfl, ?_⟩) (by assumption) ?_
    rotate_left 1
    · intro w hSw; (try dsimp only at hSw); go_simp; try with_reducible rfl
    simp only [Act.put, List.setIfInBounds_toArray, List.set_cons_zero, List.set_cons_succ]
    refine wpAnyH_ready (rs := [15]) (by kernel_rfl) (by simp) ?_
    refine AllReadyH.cons (o := ⟨some 24, _, _, _, _, _⟩) rfl (fun K hK => ?_) AllReadyH.nil
    go_simp
    refine (lit_calls _ (some ⟨b, o + 76, none⟩) 4 (c - 76) ((bs.drop 76).take 4) (by decide) (Rd.alloc (Rd.drew1 r76) _) y76).mono ?_
    rintro e w' ⟨rfl, rfl⟩
    try go_wp2_with fail
    refine hK.out _ _ trivial (fun hHeld => ?_)
    clear hK K
    try (simp only [Act.put, List.setIfInBounds_toArray, List.set_cons_zero, List.set_cons_succ])
    refine wpAnyH_take (i := 16) (oi := ⟨some 25, _, _, _, _, _⟩) (v := ?_) rfl (by kernel_rfl) (by kernel_rfl) (by kernel_rfl) (fun _ _ _ h => h) (Or.inl ⟨by rfl, ?_⟩) (by assumption) ?_
    rotate_left 1
    · intro w hSw; (try dsimp only at hSw); go_simp; try with_reducible rfl
    simp only [Act.put, List.setIfInBounds_toArray, List.set_cons_zero, List.set_cons_succ]
    refine wpAnyH_take (i := 17) (oi := ⟨some 26, _, _, _, _, _⟩) (v := ?_) rfl (by kernel_rfl) (by kernel_rfl) (by kernel_rfl) (fun _ _ _ h => h) (Or.inl ⟨by rfl, ?_⟩) (by assumption) ?_
    rotate_left 1
    · intro w hSw; (try dsimp only at hSw); go_simp; try with_reducible rfl
    simp only [Act.put, List.setIfInBounds_toArray, List.set_cons_zero, List.set_cons_succ]
    refine wpAnyH_ready (rs := [19]) (by kernel_rfl) (by simp) ?_
    refine AllReadyH.cons (o := ⟨none, _, _, _, _, _⟩) rfl (fun K hK => ?_) AllReadyH.nil
    refine step_store_any (by rfl) 53 (.tmp 4) (.tmp 26) (by rfl) wr.heap.size (parseM bs).cells.toArray (by rfl) (by rfl) 53 hd0.cells.toArray (heap_alloc_new _ _) hMI hMS hM1 ?_
    intro w3 g3 ht3
    refine hK.out _ _ trivial (fun hHeld => ?_)
    clear hK K
    try (simp only [Act.put])
    refine wpAnyH_done (by kernel_rfl) ?_ _
    refine NoPanic.normal ?_
    exact HE.out _ _ _ _ _ _ _ _ _ _ _ _ _ _ _ _ _ _ w3 g3 (ht3.below hbd (Nat.le_refl _))
end Go.Proofs.YtjlkakggmfmfiaaDoor
