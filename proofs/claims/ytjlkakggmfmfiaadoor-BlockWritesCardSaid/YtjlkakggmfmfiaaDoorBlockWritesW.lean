/- BlockWrites: for every block and byte the law's call returns true and changes nothing: its bytes, or why it has none; read again it is it; with a byte more, or less, it is none. -/
import Derived.Test.YtjlkakggmfmfiaaDoorBlkSmall
import Derived.Test.YtjlkakggmfmfiaaDoorSame08
set_option maxRecDepth 100000
set_option linter.unusedVariables false
namespace Go.Proofs.YtjlkakggmfmfiaaDoor
open Go Go.RowKit
theorem u8_wf {y : Int} (h : (Lit.int .u8 y).wf = true) : 0 ≤ y ∧ y ≤ 255 := by
  simp [Lit.wf, IntKind.min, IntKind.max, IntKind.signed, IntKind.bits] at h
  omega
theorem txC_ok {S : Nat → Prop} {w : World} {A : Option Addr} {n : Nat} {ts : List TTx} (h : txK.C S w A n ts) : ∀ t ∈ ts, t.Ok := by
  intro t ht
  obtain ⟨i, hi, rfl⟩ := List.mem_iff_getElem.1 ht
  obtain ⟨b, o, hA, _, _, hc⟩ := h.2 (by have := h.1; omega)
  obtain ⟨cs, hK, _⟩ := hc i _ (List.getElem?_eq_getElem hi)
  exact txK_okT hK
set_option maxHeartbeats 16000000 in
theorem blockWrites_walk (w : World) (hT : Tabs w) (z : TBlk) (cs : List Value) (hK : blkK.K (· < w.heap.size) w z cs) (more : Int) (hmr : 0 ≤ more ∧ more ≤ 255) :
    Calls Tryd.prog 17 #[.agg cs.toArray, .int .u8 more] w fun e w' => e = .returned (.bool true) ∧ Below w.heap.size w w' := by
  have hK' := hK
  obtain ⟨A, n, c, rfl, hok, hnc, hcm, hC⟩ := hK
  obtain ⟨h, ts⟩ := z
  simp only at hok hC hK' ⊢
  have hUB := Tryd.underlying64
  have hU := Tryd.underlying69
  have hUH := Tryd.underlying53
  have hiH : (Tryd.prog.info? 53).map (·.size) = some h.cells.length := by rw [Hd.length hok]; kernel_rfl
  have hiB := info_blkA hok A n c
  have hcm' := hcm
  unfold maxLen at hcm'
  have hnI : (n : Int) ≤ 9223372036854775807 := by omega
  have HL := Lib.hid hC.len
  have hOk := Lib.hid (txC_ok hC)
  have g0 := heap_alloc_new w (.cells (blkCells h A n c).toArray 64)
  have hb0 : Below w.heap.size w (w.alloc (.cells (blkCells h A n c).toArray 64)) := (Below.refl _ _).alloc (Nat.le_refl _) _
  go_enter Tryd.func17, Tryd.ntmps17
  go_upto_region 1 with fail
  refine wp_gen (q := fun wi => Below w.heap.size w wi ∧ wi.heap[w.heap.size]? = some (.cells (blkCells h A n c).toArray 64)) ⟨hb0, g0⟩ (fun w0 hw => ?_)
  clear hb0 g0
  obtain ⟨hb0, g0⟩ := hw
  go_wp2_with fail
  refine (head08_calls w0 (hT.below hb0)).mono ?_
  rintro e w1 ⟨rfl, hb1⟩
  have hB1 := below_then hb0 hb0.size hb1
  have g1 := heap_below hb1 g0
  clear hb0 g0 hb1
  go_wp2_with (first | ((with_reducible refine wpList_at 21 ?_); refine wpList_load_row rfl 64 (.tmp 2) rfl w.heap.size rfl 64 _ _ _ g1 hUB rfl hiB ?_))
  refine (big08_calls w1 _ ⟨h, ts⟩ (blkCells h A n c) (RK.K_below hK' hB1)).mono ?_
  rintro e w2 ⟨bb, rfl, hsm, hb2⟩
  have g2 := heap_below hb2 g1
  have hB2 := below_then hB1 hB1.size hb2
  clear g1 hB1 hb2
  cases bb with
  | true =>
    clear hsm
    go_wp2
    go_ret
    exact ⟨rfl, hB2⟩
  | false =>
    have HSM : Hid (SmallB ts) := Lib.hid (hsm rfl)
    have HER : Hid (encBErr ts = firstE ts) := Lib.hid (small_err hOk.out HSM.out)
    have hn12 : n ≤ 12 := by have := HSM.out.len; have := HL.out; omega
    clear hsm
    go_wp2_with (first | ((with_reducible refine wpList_at 24 ?_); refine wpList_load_row rfl 64 (.tmp 2) rfl w.heap.size rfl 64 _ _ _ g2 hUB rfl hiB ?_))
    refine (encB_calls w2 _ h hok A n c ts hnc hcm (RK.C.below hC hB2)).mono ?_
    rintro e w4 ⟨he1, he0, hb3⟩
    have g4 := heap_below hb3 g2
    have hB4 := below_then hB2 hB2.size hb3
    have hC4 := RK.C.below hC hB4
    have hlo : w.heap.size < w4.heap.size := heap_lt g4
    rw [HER.out] at he0 he1
    obtain ⟨er, her⟩ : ∃ er, firstE ts = er := ⟨_, rfl⟩
    have HR := Lib.hid her
    rw [her] at he0 he1
    obtain ⟨Ag, Ng, cg, rfl, hgot⟩ : ∃ Ag Ng cg, e = .returned (.tuple #[.slice Ag Ng cg, .int .i64 er]) ∧ ((er = 0 → w4.ownsRow w2.heap.size 5 1 (.slice Ag Ng cg) Ng (nums .u8 (encBF h ts))) ∧ (er ≠ 0 → Ng = 0)) := by
      by_cases hE : er = 0
      · obtain ⟨Ag, Ng, cg, rfl, hO⟩ := he0 hE
        exact ⟨Ag, Ng, cg, by rw [hE], fun _ => hO, fun h => absurd hE h⟩
      · exact ⟨none, 0, 0, he1 hE, fun h => absurd h hE, fun _ => rfl⟩
    have HG := Lib.hid hgot
    have tS4 : w4.drew.cell? ⟨w.heap.size, 68, none⟩ = some (.slice A n c) := blk_cell (w := w4) g4 (by rw [List.getElem?_toArray]; exact blkCells_at hok A n c)
    have rH4 : w4.drew.rangeAt w.heap.size 0 h.cells := range_pre (range_block (w := w4) (xs := blkCells h A n c) g4)
    have hw8 : IntKind.u8.wrap (n : Int) = n := by rw [IntKind.wrap_u8]; omega
    clear he0 he1 hgot hb3 g2 hB2 hC her
    go_upto_region 6 with fail
    go_cut [7] from 28 to 36 (fun v7 wd => ∃ A7 c7, v7 = .slice A7 81 c7 ∧ wd.ownsRow w4.heap.size 5 1 (.slice A7 81 c7) 81 (nums .u8 (hbF h ++ [(n : Int)])) ∧ Below w4.heap.size w4 wd)
    case first =>
        refine wp_region_noPanic ?_
        refine wp_region_held_drew (S := fun w' => w'.rangeAt w.heap.size 0 h.cells ∧ w'.cell? ⟨w.heap.size, 68, none⟩ = some (.slice A n c) ∧ Below w4.heap.size w4 w') (by kernel_rfl) ⟨rH4, tS4, Below.drew (Below.refl _ _)⟩ (fun hHeld => ?_)
        -- 0: law.go:212 slot 28 := Op.fieldAddr 64 t2 0
        refine wpAnyH_take (i := 0) (oi := ⟨some 28, _, _, _, _, _⟩) (v := ?_) rfl (by kernel_rfl) (by kernel_rfl) (by kernel_rfl) (fun _ _ _ h => h) (Or.inl ⟨by rfl, ?_⟩) (by assumption) ?_
        rotate_left 1
        · intro w hSw; (try dsimp only at hSw); go_simp; try with_reducible rfl
        simp only [Act.put, List.setIfInBounds_toArray, List.set_cons_zero, List.set_cons_succ]
        -- 1: law.go:212 slot 29 := Op.load 53 t28
        refine wpAnyH_take (i := 1) (oi := ⟨some 29, _, _, _, _, _⟩) rfl (by kernel_rfl) (by kernel_rfl) (by kernel_rfl) (fun _ _ _ h => h) (yieldsIf_load_mid (by rfl) _ _ rfl _ _ rfl (h.cells) _ (fun _ h => h.1) hUH rfl hiH) (by assumption) ?_
        simp only [Act.put, List.setIfInBounds_toArray, List.set_cons_zero, List.set_cons_succ]
        -- 3: law.go:212 slot 31 := Op.fieldAddr 64 t2 1
        refine wpAnyH_take (i := 3) (oi := ⟨some 31, _, _, _, _, _⟩) (v := ?_) rfl (by kernel_rfl) (by kernel_rfl) (by kernel_rfl) (fun _ _ _ h => h) (Or.inl ⟨by rfl, ?_⟩) (by assumption) ?_
        rotate_left 1
        · intro w hSw; (try dsimp only at hSw); go_simp; try with_reducible rfl
        simp only [Act.put, List.setIfInBounds_toArray, List.set_cons_zero, List.set_cons_succ]
        -- 4: law.go:212 slot 32 := Op.load 62 t31
        refine wpAnyH_take (i := 4) (oi := ⟨some 32, _, _, _, _, _⟩) (v := ?_) rfl (by kernel_rfl) (by kernel_rfl) (by kernel_rfl) (fun _ _ _ h => h) (Or.inl ⟨by rfl, ?_⟩) (by assumption) ?_
        rotate_left 1
        · intro w hSw; (try dsimp only at hSw); go_simp; try with_reducible rfl
        simp only [Act.put, List.setIfInBounds_toArray, List.set_cons_zero, List.set_cons_succ]
        -- 5: law.go:212 slot 33 := Op.call { builtin len, args := #[t32], argTypes := #[62] }
        refine wpAnyH_take (i := 5) (oi := ⟨some 33, _, _, _, _, _⟩) (v := ?_) rfl (by kernel_rfl) (by kernel_rfl) (by kernel_rfl) (fun _ _ _ h => h) (Or.inl ⟨by rfl, ?_⟩) (by assumption) ?_
        rotate_left 1
        · intro w hSw; (try dsimp only at hSw); go_simp; try with_reducible rfl
        simp only [Act.put, List.setIfInBounds_toArray, List.set_cons_zero, List.set_cons_succ]
        -- 6: law.go:212 slot 34 := Op.convert 3 5 t33
        refine wpAnyH_take (i := 6) (oi := ⟨some 34, _, _, _, _, _⟩) (v := ?_) rfl (by kernel_rfl) (by kernel_rfl) (by kernel_rfl) (fun _ _ _ h => h) (Or.inl ⟨by rfl, ?_⟩) (by assumption) ?_
        rotate_left 1
        · intro w hSw; (try dsimp only at hSw); go_simp; try with_reducible rfl
        simp only [Act.put, List.setIfInBounds_toArray, List.set_cons_zero, List.set_cons_succ]
        refine wpAnyH_ready (rs := [2, 7]) (by kernel_rfl) (by simp) ?_
        refine AllReadyH.cons (o := ⟨some 30, _, _, _, _, _⟩) rfl (fun K hK => ?_) (AllReadyH.cons (o := ⟨some 35, _, _, _, _, _⟩) rfl (fun K hK => ?_) AllReadyH.nil)
        · go_simp
          refine (bytes_calls _ h hok).mono ?_
          rintro e w5 ⟨A5, c5, rfl, hO5, hbz⟩
          have hs5 := hHeld.2.2.size
          have hO5m := own_mono hO5 hs5
          refine hK.out _ _ ⟨range_below hbz hHeld.1, cell_below hbz hHeld.2.1, below_then hHeld.2.2 hHeld.2.2.size hbz⟩ (fun hHeld' => ?_)
          clear hHeld
          have hHeld := hHeld'
          clear hHeld'
          clear hK K
          try (simp only [Act.put, List.setIfInBounds_toArray, List.set_cons_zero, List.set_cons_succ])
          -- 7: law.go:212 slot 35 := Op.buildSlice 22 1 #[(0, t34)]
          refine wpAnyH_ready (rs := [7]) (by kernel_rfl) (by simp) ?_
          refine AllReadyH.cons (o := ⟨some 35, _, _, _, _, _⟩) rfl (fun K hK => ?_) AllReadyH.nil
          go_simp
          have hbz : Below w5.heap.size w5 (w5.alloc (.cells #[.int .u8 (n : Int)] 5)) := (Below.refl _ _).alloc (Nat.le_refl _) _
          have hO5a := own_below hO5m hbz
          have hRa : Rd (w5.alloc (.cells #[.int .u8 (n : Int)] 5)) (some ⟨w5.heap.size, 0, none⟩) 1 (nums .u8 [(n : Int)]) := Rd.of_block0 (heap_alloc_new _ _)
          refine hK.out _ _ ⟨range_below hbz hHeld.1, cell_below hbz hHeld.2.1, below_then hHeld.2.2 hHeld.2.2.size hbz⟩ (fun hHeld' => ?_)
          clear hHeld
          have hHeld := hHeld'
          clear hHeld'
          clear hK K
          try (simp only [Act.put, List.setIfInBounds_toArray, List.set_cons_zero, List.set_cons_succ])
          -- 8: law.go:212 slot 36 := Op.call { builtin append, args := #[t30, t35], argTypes := #[22, 22] }
          refine wpAnyH_ready (rs := [8]) (by kernel_rfl) (by simp) ?_
          refine AllReadyH.cons (o := ⟨some 36, _, _, _, _, _⟩) rfl (fun K hK => ?_) AllReadyH.nil
          refine step_appN (by rfl) (.tmp 30) (.tmp 35) 22 (by rfl) w4.heap.size 5 _ 1 Tryd.underlying22 infoU8 rfl (.slice A5 80 c5) 80 (nums .u8 (hbF h)) (by rfl) hO5a _ 1 1 (nums .u8 [(n : Int)]) (by rfl) hRa (nums_one _ _) 81 (nums .u8 (hbF h ++ [(n : Int)])) rfl (by rw [nums_append]) (by unfold maxLen; omega) (by omega) hHeld.2.2.size ?_
          intro A7 c7 w7 hO7 hG7 hx7
          have hB7 : Below w4.heap.size w4 w7 := hHeld.2.2.grown hG7 hHeld.2.2.size (fun q e => own_base hO5a q e)
          refine hK.out _ _ ⟨range_grown hG7 hHeld.1 (own_lt_ne hO5a hlo), cell_grown hG7 hHeld.2.1 (own_lt_ne hO5a hlo), hB7⟩ (fun hHeld' => ?_)
          clear hHeld
          have hHeld := hHeld'
          clear hHeld'
          clear hK K
          try (simp only [Act.put, List.setIfInBounds_toArray, List.set_cons_zero, List.set_cons_succ])
          -- 9: law.go:212 slot 7 := Op.assign t36
          refine wpAnyH_take (i := 9) (oi := ⟨some 7, _, _, _, _, _⟩) (v := ?_) rfl (by kernel_rfl) (by kernel_rfl) (by kernel_rfl) (fun _ _ _ h => h) (Or.inl ⟨by rfl, ?_⟩) (by assumption) ?_
          rotate_left 1
          · intro w hSw; (try dsimp only at hSw); go_simp; try with_reducible rfl
          simp only [Act.put, List.setIfInBounds_toArray, List.set_cons_zero, List.set_cons_succ]
          refine wpAnyH_done (by kernel_rfl) ?_ _
          refine NoPanic.normal ?_
          go_wp2_with fail
          go_meet
          case rel => exact ⟨A7, c7, rfl, hO7, hB7⟩
        · go_simp
          have hbz : Below w4.drew.heap.size w4.drew (w4.drew.alloc (.cells #[.int .u8 (n : Int)] 5)) := (Below.refl _ _).alloc (Nat.le_refl _) _
          have hRa : Rd (w4.drew.alloc (.cells #[.int .u8 (n : Int)] 5)) (some ⟨w4.drew.heap.size, 0, none⟩) 1 (nums .u8 [(n : Int)]) := Rd.of_block0 (heap_alloc_new _ _)
          refine hK.out _ _ ⟨range_below hbz hHeld.1, cell_below hbz hHeld.2.1, below_then hHeld.2.2 hHeld.2.2.size hbz⟩ (fun hHeld' => ?_)
          clear hHeld
          have hHeld := hHeld'
          clear hHeld'
          clear hK K
          try (simp only [Act.put, List.setIfInBounds_toArray, List.set_cons_zero, List.set_cons_succ])
          -- 2: law.go:212 slot 30 := Op.call { value (Operand.func 34), args := #[t29], argTypes := #[53] }
          refine wpAnyH_ready (rs := [2]) (by kernel_rfl) (by simp) ?_
          refine AllReadyH.cons (o := ⟨some 30, _, _, _, _, _⟩) rfl (fun K hK => ?_) AllReadyH.nil
          go_simp
          refine (bytes_calls _ h hok).mono ?_
          rintro e w5 ⟨A5, c5, rfl, hO5, hbz⟩
          have hs5 := hHeld.2.2.size
          have hO5m := own_mono hO5 hs5
          have hRb := hRa.below hbz
          refine hK.out _ _ ⟨range_below hbz hHeld.1, cell_below hbz hHeld.2.1, below_then hHeld.2.2 hHeld.2.2.size hbz⟩ (fun hHeld' => ?_)
          clear hHeld
          have hHeld := hHeld'
          clear hHeld'
          clear hK K
          try (simp only [Act.put, List.setIfInBounds_toArray, List.set_cons_zero, List.set_cons_succ])
          -- 8: law.go:212 slot 36 := Op.call { builtin append, args := #[t30, t35], argTypes := #[22, 22] }
          refine wpAnyH_ready (rs := [8]) (by kernel_rfl) (by simp) ?_
          refine AllReadyH.cons (o := ⟨some 36, _, _, _, _, _⟩) rfl (fun K hK => ?_) AllReadyH.nil
          refine step_appN (by rfl) (.tmp 30) (.tmp 35) 22 (by rfl) w4.heap.size 5 _ 1 Tryd.underlying22 infoU8 rfl (.slice A5 80 c5) 80 (nums .u8 (hbF h)) (by rfl) hO5m _ 1 1 (nums .u8 [(n : Int)]) (by rfl) hRb (nums_one _ _) 81 (nums .u8 (hbF h ++ [(n : Int)])) rfl (by rw [nums_append]) (by unfold maxLen; omega) (by omega) hHeld.2.2.size ?_
          intro A7 c7 w7 hO7 hG7 hx7
          have hB7 : Below w4.heap.size w4 w7 := hHeld.2.2.grown hG7 hHeld.2.2.size (fun q e => own_base hO5m q e)
          refine hK.out _ _ ⟨range_grown hG7 hHeld.1 (own_lt_ne hO5m hlo), cell_grown hG7 hHeld.2.1 (own_lt_ne hO5m hlo), hB7⟩ (fun hHeld' => ?_)
          clear hHeld
          have hHeld := hHeld'
          clear hHeld'
          clear hK K
          try (simp only [Act.put, List.setIfInBounds_toArray, List.set_cons_zero, List.set_cons_succ])
          -- 9: law.go:212 slot 7 := Op.assign t36
          refine wpAnyH_take (i := 9) (oi := ⟨some 7, _, _, _, _, _⟩) (v := ?_) rfl (by kernel_rfl) (by kernel_rfl) (by kernel_rfl) (fun _ _ _ h => h) (Or.inl ⟨by rfl, ?_⟩) (by assumption) ?_
          rotate_left 1
          · intro w hSw; (try dsimp only at hSw); go_simp; try with_reducible rfl
          simp only [Act.put, List.setIfInBounds_toArray, List.set_cons_zero, List.set_cons_succ]
          refine wpAnyH_done (by kernel_rfl) ?_ _
          refine NoPanic.normal ?_
          go_wp2_with fail
          go_meet
          case rel => exact ⟨A7, c7, rfl, hO7, hB7⟩
    case rest =>
      obtain ⟨A7, c7, rfl, hO7, hB7⟩ := hcut
      have h0 : wc.ownsRow w4.heap.size 5 1 (.slice A7 81 c7) 81 (nums .u8 (hbF h ++ [(n : Int)] ++ (ts.take 0).flatMap encZ)) := by simpa using hO7
      have tS7 : wc.cell? ⟨w.heap.size, 68, none⟩ = some (.slice A n c) := cell_below hB7 (w := w4) tS4
      clear hO7 tS4 rH4 hw8
      go_wp2
      go_loopw [7, 8, 40] (fun v7 v8 v40 wr => ∃ (k L : Nat) (A8 : Option Addr) (c8 : Nat), k ≤ n ∧ v40 = .int .i64 k ∧ v8 = .int .i64 (firstE (ts.take k)) ∧ v7 = .slice A8 L c8 ∧ L ≤ 81 + k * 65536 ∧ wr.ownsRow w4.heap.size 5 1 (.slice A8 L c8) L (nums .u8 (hbF h ++ [(n : Int)] ++ (ts.take k).flatMap encZ)) ∧ Below w4.heap.size w4 wr) (fun _ _ v _ => n - (intOf v).toNat)
      case atStart => exact ⟨0, 81, A7, c7, by omega, rfl, rfl, rfl, by omega, h0, hB7⟩
      case round =>
        clear h0 hB7 tS7
        obtain ⟨k, L, A8, c8, hk, rfl, rfl, rfl, hL, hO, hB⟩ := hrel
        have hbw := below_then hB4 hB4.size hB
        have hms := hB.size
        by_cases hlt : k < n
        · have hlt' : (k : Int) < (n : Int) := by omega
          have hkk : (0 : Int) ≤ (k : Int) := by omega
          obtain ⟨b, o, cs, x, hA, hx, hKx, hcx⟩ := (RK.C.below hC4 hB).get k hlt
          subst hA
          have hfl := take_flat encZ ts k x hx
          have HFL : Hid (nums .u8 (hbF h ++ [(n : Int)] ++ (ts.take k).flatMap encZ) ++ nums .u8 (encZ x) = nums .u8 (hbF h ++ [(n : Int)] ++ (ts.take (k + 1)).flatMap encZ)) := Lib.hid (by
            rw [← nums_append, hfl]; simp only [List.append_assoc])
          have HFE := Lib.hid (firstE_take hx)
          obtain ⟨X1, xc1, X2, xc2, rfl, x1, x2, x3, x4, _, _⟩ := txK_form hKx
          unfold maxLen at x2 x4
          have hrx : wr.rangeAt b (o + k * 4) [.int .i32 x.ver, .slice X1 x.ins.length xc1, .slice X2 x.outs.length xc2, .int .u32 x.lock] := hcx
          have hi4 := info_tx4 (.int .i32 x.ver) (.slice X1 x.ins.length xc1) (.slice X2 x.outs.length xc2) (.int .u32 x.lock)
          obtain ⟨fe, hfe⟩ : ∃ fe, firstE (ts.take k) = fe := ⟨_, rfl⟩
          rw [hfe] at HFE ⊢
          clear hx hcx hfl hfe
          go_upto_region 11 with (first
            | ((with_reducible refine wpList_at 43 ?_); refine wpList_load_mid rfl 69 (.tmp 42) rfl b (o + k * 4) rfl [.int .i32 x.ver, .slice X1 x.ins.length xc1, .slice X2 x.outs.length xc2, .int .u32 x.lock] _ hrx hU rfl hi4 ?_))
          refine wp_gen (q := fun wi => wi.heap[wr.heap.size]? = some (.cells ([.int .i32 x.ver, .slice X1 x.ins.length xc1, .slice X2 x.outs.length xc2, .int .u32 x.lock]).toArray 69) ∧ Below wr.heap.size wr wi) ⟨heap_alloc_new _ _, (Below.refl _ _).alloc (Nat.le_refl _) _⟩ (fun w5 hw => ?_)
          obtain ⟨g5, hb5⟩ := hw
          have hB5 := below_then hB hB.size hb5
          have hO5 := own_below hO hb5
          have hKx5 := RK.K_below hKx hb5
          clear hrx hO hKx hb5
          go_wp2_with (first | ((with_reducible refine wpList_at 45 ?_); refine wpList_load_row rfl 69 (.tmp 10) rfl wr.heap.size rfl 69 _ _ _ g5 hU rfl hi4 ?_))
          refine (enc_calls w5 _ x [.int .i32 x.ver, .slice X1 x.ins.length xc1, .slice X2 x.outs.length xc2, .int .u32 x.lock] hKx5).mono ?_
          rintro e w6 ⟨he1, he0, hb6⟩
          have hB6 := below_then hB5 hB5.size hb6
          have hO6 := own_below hO5 hb6
          obtain ⟨A6, N6, c6, rfl, hR6, hN6⟩ : ∃ A6 N6 c6, e = .returned (.tuple #[.slice A6 N6 c6, .int .i64 (encErr x)]) ∧ Rd w6 A6 N6 (nums .u8 (encZ x)) ∧ N6 ≤ 65536 := by
            by_cases hE : encErr x = 0
            · obtain ⟨A6, N6, c6, rfl, hO⟩ := he0 hE
              have hR := Rd.of_own hO
              have h1 := (encErr_zero hE).2
              refine ⟨A6, N6, c6, by rw [hE], by rw [encZ, if_pos hE]; exact hR, ?_⟩
              have := hR.1
              rw [nums_length] at this
              omega
            · exact ⟨none, 0, 0, he1 hE, by rw [encZ, if_neg hE]; exact Rd.nil _ _, by omega⟩
          have hms6 := hB6.size
          clear g5 hO5 hKx5 hB5 hb6 he0 he1 hbw
          by_cases hfz : fe = 0
          · have hEq : (fe == 0) = true := beq_iff_eq.2 hfz
            have HFN : Hid (firstE (ts.take (k + 1)) = encErr x) := Lib.hid (by rw [HFE.out, if_pos hfz])
            go_upto_region 15 with (first
              | ((with_reducible refine wpList_at 54 ?_); refine wpList_appN rfl (.tmp 52) (.tmp 53) 22 rfl w4.heap.size 5 _ 1 Tryd.underlying22 infoU8 rfl (.slice A8 L c8) L _ rfl hO6 A6 N6 c6 (nums .u8 (encZ x)) rfl hR6 (nums_one _ _) (L + N6) (nums .u8 (hbF h ++ [(n : Int)] ++ (ts.take (k + 1)).flatMap encZ)) rfl HFL.out (by unfold maxLen; omega) (by omega) hms6 ?_
                 intro A9 c9 w9 hO9 hG9 hx9))
            have hB9 : Below w4.heap.size w4 w9 := hB6.grown hG9 hms6 (fun q e => own_base hO6 q e)
            clear hO6 hG9 hx9 hR6 hB6
            go_wp2
            go_roundw
            case rel => exact ⟨k + 1, L + N6, A9, c9, by omega, by go_num, by rw [HFN.out], rfl, by omega, hO9, hB9⟩
            case measure => simp [intOf]; omega
          · have hEq : (fe == 0) = false := beq_eq_false_iff_ne.2 hfz
            have HFN : Hid (firstE (ts.take (k + 1)) = fe) := Lib.hid (by rw [HFE.out, if_neg hfz])
            go_upto_region 15 with (first
              | ((with_reducible refine wpList_at 54 ?_); refine wpList_appN rfl (.tmp 52) (.tmp 53) 22 rfl w4.heap.size 5 _ 1 Tryd.underlying22 infoU8 rfl (.slice A8 L c8) L _ rfl hO6 A6 N6 c6 (nums .u8 (encZ x)) rfl hR6 (nums_one _ _) (L + N6) (nums .u8 (hbF h ++ [(n : Int)] ++ (ts.take (k + 1)).flatMap encZ)) rfl HFL.out (by unfold maxLen; omega) (by omega) hms6 ?_
                 intro A9 c9 w9 hO9 hG9 hx9))
            have hB9 : Below w4.heap.size w4 w9 := hB6.grown hG9 hms6 (fun q e => own_base hO6 q e)
            clear hO6 hG9 hx9 hR6 hB6
            go_wp2
            go_roundw
            case rel => exact ⟨k + 1, L + N6, A9, c9, by omega, by go_num, by rw [HFN.out], rfl, by omega, hO9, hB9⟩
            case measure => simp [intOf]; omega
        · have hlt' : ¬ (k : Int) < (n : Int) := by omega
          have hkn : k = n := by omega
          have htk : ts.take k = ts := List.take_of_length_le (by rw [HL.out]; omega)
          rw [htk, HR.out]
          rw [htk] at hO
          have gr := heap_below hB g4
          clear htk hC4
          by_cases hz : er = 0
          · have hEq : (er == 0) = true := beq_iff_eq.2 hz
            have hf0 := firstE_zero ts (by rw [HR.out]; exact hz)
            have hFit := Lib.hid (fun t ht => (⟨hOk.out t ht, hf0 t ht⟩ : FitT t))
            have hHE := Lib.hid hf0
            have hOg := own_below (HG.out.1 hz) hB
            have hcn : compF ts.length = [(n : Int)] := by rw [HL.out]; exact compF_small n (by omega)
            have hcont : hbF h ++ [(n : Int)] ++ ts.flatMap encZ = encBF h ts := by rw [encZ_fit ts hf0]; unfold encBF; rw [hcn]
            rw [hcont] at hO
            have hleG := own_le hOg
            have hRg := Rd.of_own hOg
            have hRw := Rd.of_own hO
            have hNl : (encBF h ts).length = Ng := by have := hRg.1; rwa [nums_length] at this
            have hsl := small_lines ts hOk.out HSM.out.all
            have hel := encBF_length hok ts
            rw [hcn, List.length_singleton] at hel
            have hNmax : Ng ≤ 260625 := by have := HL.out; omega
            have hNmin : 81 ≤ Ng := by omega
            have HBY := Lib.hid (encBF_bytes hok hFit.out)
            have hn1024 : ts.length ≤ 1024 := by have := HL.out; omega
            have HD1 : Hid (decBk (encBF h ts) = some ⟨h, ts⟩) := Lib.hid (by have := decBk_of hok hFit.out hn1024 []; rwa [List.append_nil, if_pos rfl] at this)
            have HD2 : Hid (decBk (encBF h ts ++ [more]) = none) := Lib.hid (by have := decBk_of hok hFit.out hn1024 [more]; rwa [if_neg (by simp)] at this)
            have HD3 : Hid (decBk ((encBF h ts).take (Ng - 1)) = none) := Lib.hid (by have := decBk_cut hok hFit.out (by have := HL.out; omega); rwa [hNl] at this)
            have kb := conv_rd (P := Tryd.prog) (src := 22) (dst := 9) (c := cg) Tryd.underlying22 Tryd.underlying5 Tryd.underlying9 hRg
            have kw := conv_rd (P := Tryd.prog) (src := 22) (dst := 9) (c := c8) Tryd.underlying22 Tryd.underlying5 Tryd.underlying9 hRw
            clear hO hOg hRw hcont hcn hsl hel hNl hB hf0 hn1024
            subst hz
            go_upto_region 22 with fail
            clear kb kw
            go_wp2_with fail
            refine (decB_calls wr Ag Ng cg (encBF h ts) hleG.1 hleG.2 (by omega) hRg HBY.out).mono ?_
            rintro e w5 ⟨_, hS5, hb5⟩
            obtain ⟨cs, rfl, hK5⟩ := hS5 _ HD1.out
            have hK5' := hK5
            obtain ⟨X, nx, cx, rfl, _, _, _, hCx⟩ := hK5
            have hRg5 := hRg.below hb5
            have gr5 := heap_below hb5 gr
            have hbw5 := below_then hbw hbw.size hb5
            have hlw5 : w.heap.size < w5.heap.size := heap_lt gr5
            have hszX : (blkCells hd0 none 0 0).toArray.size = (blkCells h X nx cx).toArray.size := by rw [List.size_toArray, List.size_toArray, blkCells_length hok, blkCells_length hd0_ok]
            simp only at hCx hK5' ⊢
            clear hS5 hRg gr hbw hb5 hCx
            go_upto_region 23 with (first
              | ((with_reducible refine wpList_atS 13 ?_); refine wpList_store_any rfl 64 (.tmp 13) (.tmp 72) rfl w5.heap.size (blkCells h X nx cx).toArray rfl rfl 64 (blkCells hd0 none 0 0).toArray (heap_alloc_new _ _) (info_blkA hok X nx cx) hszX (blkCells_all h X nx cx) ?_; intro w6 h6 ht6))
            have hb6 : Below w5.heap.size w5 w6 := ht6.below ((Below.refl _ _).alloc (Nat.le_refl _) _) (Nat.le_refl _)
            have hRg6 := hRg5.below hb6
            have gr6 := heap_below hb6 gr5
            have hbw6 := below_then hbw5 hbw5.size hb6
            have hK6 := RK.K_below hK5' hb6
            have hoe := own_empty (w := w6) (base := w6.heap.size) 5 1 (Nat.le_refl _)
            have hRa := hRg6.alloc (.cells #[] 5)
            have hle6 : w6.heap.size ≤ (w6.alloc (.cells #[] 5)).heap.size := by simp
            have HCAT : Hid (nums .u8 (encBF h ts) ++ nums .u8 [more] = nums .u8 (encBF h ts ++ [more])) := Lib.hid (by rw [nums_append])
            clear ht6 hb6 hRg5 gr5 hbw5 hK5' hszX
            go_wp2_with (first
              | ((with_reducible refine wpList_at 77 ?_); refine wpList_appN rfl (.tmp 75) (.tmp 76) 22 rfl w6.heap.size 5 _ 1 Tryd.underlying22 infoU8 rfl (.slice (some ⟨w6.heap.size, 0, none⟩) 0 0) 0 [] rfl hoe Ag Ng cg (nums .u8 (encBF h ts)) rfl hRa (nums_one _ _) Ng (nums .u8 (encBF h ts)) (Nat.zero_add _) (List.nil_append _) (by unfold maxLen; omega) (by omega) hle6 ?_
                 intro A9 c9 w7 hO9 hG9 hx9)
              | ((with_reducible refine wpList_at 80 ?_); refine wpList_appN rfl (.tmp 77) (.tmp 79) 22 rfl w6.heap.size 5 _ 1 Tryd.underlying22 infoU8 rfl (.slice A9 Ng c9) Ng (nums .u8 (encBF h ts)) rfl (own_below hO9 ((Below.refl _ _).alloc (Nat.le_refl _) _)) (some ⟨w7.heap.size, 0, none⟩) 1 1 (nums .u8 [more]) rfl (Rd.of_block0 (heap_alloc_new _ _)) (nums_one _ _) (Ng + 1) (nums .u8 (encBF h ts ++ [more])) rfl HCAT.out (by unfold maxLen; omega) (by omega) (by have := hG9.size; simp at this ⊢; omega) ?_
                 intro A10 c10 w8 hO10 hG10 hx10))
            have hB7 : Below w6.heap.size w6 w7 := ((Below.refl _ _).alloc (Nat.le_refl _) _).grown hG9 (by simp) (fun q e => own_base hoe q e)
            have hB8 : Below w6.heap.size w6 w8 := (hB7.alloc hB7.size _).grown hG10 (by have := hB7.size; simp; omega) (fun q e => own_base hO9 q e)
            have hle10 := own_le hO10
            have hR10 := Rd.of_own hO10
            have hRg8 := hRg6.below hB8
            have gr8 := heap_below hB8 gr6
            have h68 := heap_below hB8 h6
            have hbw8 := below_then hbw6 hbw6.size hB8
            have hK8 := RK.K_below hK6 hB8
            clear hoe hRa hO9 hG9 hx9 hO10 hG10 hx10 hB7 hB8 hRg6 gr6 h6 hbw6 hK6
            refine (decB_calls w8 A10 (Ng + 1) c10 (encBF h ts ++ [more]) hle10.1 hle10.2 (by omega) hR10 (HBY.out.append (by intro y hy; rw [List.mem_singleton.1 hy]; exact hmr))).mono ?_
            rintro e w9 ⟨hN9, _, hb9⟩
            obtain rfl := hN9 HD2.out
            have hRg9 := hRg8.below hb9
            have gr9 := heap_below hb9 gr8
            have h69 := heap_below hb9 h68
            have hbw9 := below_then hbw8 hbw8.size hb9
            have hK9 := RK.K_below hK8 hb9
            clear hN9 hb9 hRg8 gr8 h68 hbw8 hK8 hR10 hle10
            go_upto_region 24 with (first
              | ((with_reducible refine wpList_atS 15 ?_); refine wpList_store_any rfl 64 (.tmp 15) (.tmp 82) rfl w9.heap.size (blkCells hd0 none 0 0).toArray rfl rfl 64 (blkCells hd0 none 0 0).toArray (heap_alloc_new _ _) (info_blkA hd0_ok none 0 0) rfl (blkCells_all hd0 none 0 0) ?_; intro w10 h10 ht10))
            have hb10 : Below w9.heap.size w9 w10 := ht10.below ((Below.refl _ _).alloc (Nat.le_refl _) _) (Nat.le_refl _)
            have hRg10 := hRg9.below hb10
            have gr10 := heap_below hb10 gr9
            have h610 := heap_below hb10 h69
            have hbw10 := below_then hbw9 hbw9.size hb10
            have hK10 := RK.K_below hK9 hb10
            have hRc := hRg10.take_ (Ng - 1) (by omega)
            rw [nums_take] at hRc
            have kh : ∀ W, (Instr.slice 22 (.slice Ag Ng cg) none (some (.int .i64 ((Ng : Int) - 1))) none).run Tryd.prog W = .ok (.slice Ag (Ng - 1) cg) W := fun W => by
              rw [show (Ng : Int) - 1 = ((Ng - 1 : Nat) : Int) by omega]
              exact cut_head Ag Ng cg (Ng - 1) (by have := hleG.1; omega) W
            clear ht10 hb10 h10 hRg9 gr9 h69 hbw9 hK9 hRg10
            go_wp2_with fail
            refine (decB_calls w10 Ag (Ng - 1) cg ((encBF h ts).take (Ng - 1)) (by have := hleG.1; omega) hleG.2 (by omega) hRc (HBY.out.take _)).mono ?_
            rintro e w11 ⟨hN11, _, hb11⟩
            obtain rfl := hN11 HD3.out
            have gr11 := heap_below hb11 gr10
            have h611 := heap_below hb11 h610
            have hbw11 := below_then hbw10 hbw10.size hb11
            have hK11 := RK.K_below hK10 hb11
            clear hN11 hb11 hRc gr10 h610 hbw10 hK10 kh
            go_upto_region 25 with (first
              | ((with_reducible refine wpList_atS 17 ?_); refine wpList_store_any rfl 64 (.tmp 17) (.tmp 91) rfl w11.heap.size (blkCells hd0 none 0 0).toArray rfl rfl 64 (blkCells hd0 none 0 0).toArray (heap_alloc_new _ _) (info_blkA hd0_ok none 0 0) rfl (blkCells_all hd0 none 0 0) ?_; intro w12 h12 ht12))
            have hb12 : Below w11.heap.size w11 w12 := ht12.below ((Below.refl _ _).alloc (Nat.le_refl _) _) (Nat.le_refl _)
            have gr12 := heap_below hb12 gr11
            have h612 := heap_below hb12 h611
            have hbw12 := below_then hbw11 hbw11.size hb12
            have hK12 := RK.K_below hK11 hb12
            have hiX := info_blkA hok X nx cx
            clear ht12 hb12 h12 gr11 h611 hbw11 hK11
            go_wp2_with (first
              | ((with_reducible refine wpList_at 96 ?_); refine wpList_load_rowG rfl 64 (.tmp 13) rfl w5.heap.size rfl 64 _ _ _ h612 hUB rfl hiX ?_)
              | ((with_reducible refine wpList_at 97 ?_); refine wpList_load_rowG rfl 64 (.tmp 2) rfl w.heap.size rfl 64 _ _ _ gr12 hUB rfl hiB ?_))
            refine (same08_calls w12 _ _ ⟨h, ts⟩ (blkCells h X nx cx) (blkCells h A n c) hK12 (RK.K_below hK' hbw12) hHE.out).mono ?_
            rintro e w13 ⟨rfl, hb13⟩
            have hbw13 := below_then hbw12 hbw12.size hb13
            clear hb13 hK12 gr12 h612 hbw12
            go_wp2
            go_ret
            exact ⟨rfl, hbw13⟩
          · have hEq : (er == 0) = false := beq_eq_false_iff_ne.2 hz
            have hN0 := HG.out.2 hz
            subst hN0
            clear hO
            go_wp2
            go_ret
            exact ⟨rfl, hbw⟩
end Go.Proofs.YtjlkakggmfmfiaaDoor
