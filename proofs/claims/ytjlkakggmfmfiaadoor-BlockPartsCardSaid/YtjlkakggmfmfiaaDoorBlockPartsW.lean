/- BlockParts: for every block the law's call returns true and changes nothing: transactions one by one are the block's. -/
import Derived.Test.YtjlkakggmfmfiaaDoorBig08
import Derived.Test.YtjlkakggmfmfiaaDoorBlkEnc
import Derived.Test.YtjlkakggmfmfiaaDoorHead08
set_option maxRecDepth 100000
set_option linter.unusedVariables false
namespace Go.Proofs.YtjlkakggmfmfiaaDoor
open Go Go.RowKit
theorem txC_ok {S : Nat → Prop} {w : World} {A : Option Addr} {n : Nat} {ts : List TTx} (h : txK.C S w A n ts) : ∀ t ∈ ts, t.Ok := by
  intro t ht
  obtain ⟨i, hi, rfl⟩ := List.mem_iff_getElem.1 ht
  obtain ⟨b, o, hA, _, _, hc⟩ := h.2 (by have := h.1; omega)
  obtain ⟨cs, hK, _⟩ := hc i _ (List.getElem?_eq_getElem hi)
  exact txK_okT hK
set_option maxHeartbeats 8000000 in
theorem blockParts_walk (w : World) (hT : Tabs w) (z : TBlk) (cs : List Value) (hK : blkK.K (· < w.heap.size) w z cs) :
    Calls Tryd.prog 14 #[.agg cs.toArray] w fun e w' => e = .returned (.bool true) ∧ Below w.heap.size w w' := by
  have hK' := hK
  obtain ⟨A, n, c, rfl, hok, hnc, hcm, hC⟩ := hK
  obtain ⟨h, ts⟩ := z
  simp only at hok hC hK' ⊢
  have hUB := Tryd.underlying64
  have hU := Tryd.underlying69
  have hUH := Tryd.underlying25
  have hiB := info_blkA hok A n c
  have hcm' := hcm
  unfold maxLen at hcm'
  have hnI : (n : Int) ≤ 9223372036854775807 := by omega
  have HL := Lib.hid hC.len
  have g0 := heap_alloc_new w (.cells (blkCells h A n c).toArray 64)
  have hb0 : Below w.heap.size w (w.alloc (.cells (blkCells h A n c).toArray 64)) := (Below.refl _ _).alloc (Nat.le_refl _) _
  go_enter Tryd.func14, Tryd.ntmps14
  go_upto_region 1 with fail
  refine wp_gen (q := fun wi => Below w.heap.size w wi ∧ wi.heap[w.heap.size]? = some (.cells (blkCells h A n c).toArray 64)) ⟨hb0, g0⟩ (fun w0 hw => ?_)
  clear hb0 g0
  obtain ⟨hb0, g0⟩ := hw
  go_wp2_with fail
  refine (head08_calls w0 (hT.below hb0)).mono ?_
  rintro e w1 ⟨rfl, hb1⟩
  have hB1 := below_then hb0 hb0.size hb1
  have g1 := heap_below hb1 g0
  clear hb0 g0 hb1
  go_wp2_with (first | ((with_reducible refine wpList_at 13 ?_); refine wpList_load_row rfl 64 (.tmp 1) rfl w.heap.size rfl 64 _ _ _ g1 hUB rfl hiB ?_))
  refine (big08_calls w1 _ ⟨h, ts⟩ (blkCells h A n c) (RK.K_below hK' hB1)).mono ?_
  rintro e w2 ⟨bb, rfl, hsm, hb2⟩
  have g2 := heap_below hb2 g1
  have hB2 := below_then hB1 hB1.size hb2
  clear g1 hB1 hb2
  cases bb with
  | true =>
    clear hsm
    go_wp2
    go_ret
    exact ⟨rfl, hB2⟩
  | false =>
    have HSM := Lib.hid (hsm rfl)
    clear hsm
    go_wp2_with (first | ((with_reducible refine wpList_at 16 ?_); refine wpList_load_row rfl 64 (.tmp 1) rfl w.heap.size rfl 64 _ _ _ g2 hUB rfl hiB ?_))
    refine (encB_calls w2 _ h hok A n c ts hnc hcm (RK.C.below hC hB2)).mono ?_
    rintro e w3 ⟨he1, he0, hb3⟩
    have g3 := heap_below hb3 g2
    have hB3 := below_then hB2 hB2.size hb3
    have hOk := Lib.hid (txC_ok hC)
    have hC3 := RK.C.below hC hB3
    clear g2 hB2 hb3 hC hK'
    by_cases hE : encBErr ts = 0
    · obtain ⟨A3, N, c3, rfl, hO3⟩ := he0 hE
      have hEq : (encBErr ts == 0) = true := beq_iff_eq.2 hE
      have HF : Hid (∀ t ∈ ts, FitT t) := Lib.hid (fun t ht => ⟨hOk.out t ht, (encBErr_zero hE).2.1 t ht⟩)
      have hcl : (compF n).length = 1 := by rw [compF_length, if_pos (by have h1 : ts.length ≤ 12 := HSM.out.len; have h2 := HL.out; omega)]
      have hlen := encBF_length hok ts
      rw [HL.out] at hlen
      have hle := own_le hO3
      have hR3 := Rd.of_own hO3
      have hNl : (encBF h ts).length = N := by have := hR3.1; rwa [nums_length] at this
      have h81 : 81 ≤ N := by omega
      have k81 := fun W => cut_tail A3 N c3 81 h81 W
      have hRt := rd_cutA hR3 81 h81 hle.1
      have hdr : (nums .u8 (encBF h ts)).drop 81 = nums .u8 (linesF (ts.drop 0)) := by
        rw [nums_drop, List.drop_zero]
        congr 1
        unfold encBF
        exact List.drop_left' (by rw [List.length_append, hbF_length hok, HL.out, hcl])
      rw [hdr] at hRt
      have k81' : ∀ W, (Instr.slice 22 (.slice A3 N c3) (some (.int .i64 81)) none none).run Tryd.prog W = .ok (.slice (cutA A3 c3 81) (N - 81) (c3 - 81)) W := k81
      have hle2 := hle.2
      have tS : w3.cell? ⟨w.heap.size, 68, none⟩ = some (.slice A n c) := blk_cell g3 (by rw [List.getElem?_toArray]; exact blkCells_at hok A n c)
      have hc1 : N - 81 ≤ c3 - 81 := by have := hle.1; omega
      have hc2 : c3 - 81 ≤ maxLen := by omega
      have HE := Lib.hid hE
      clear hcl hlen hle hR3 hNl hO3 he1 he0 hE k81 hdr g3 hle2
      go_wp2
      go_loopw [5, 27] (fun v5 v27 wq => ∃ (j m d : Nat) (D : Option Addr), j ≤ n ∧ v27 = .int .i64 j ∧ v5 = .slice D m d ∧ m ≤ d ∧ d ≤ maxLen ∧ Rd wq D m (nums .u8 (linesF (ts.drop j))) ∧ Below w3.heap.size w3 wq) (fun _ v _ => n - (intOf v).toNat)
      case atStart => exact ⟨0, N - 81, c3 - 81, _, by omega, rfl, rfl, hc1, hc2, hRt, Below.refl _ _⟩
      case round =>
        clear hRt k81' hc1 hc2
        obtain ⟨j, m, d, D, hj, rfl, rfl, hm1, hm2, hRq, hBq⟩ := hrel
        have hbq := below_then hB3 hB3.size hBq
        by_cases hjl : j < n
        · have hjl' : (j : Int) < (n : Int) := by omega
          have hjj : (0 : Int) ≤ (j : Int) := by omega
          obtain ⟨b, o, cs, x, hA, hx, hKx, hcx⟩ := (RK.C.below hC3 hBq).get j hjl
          subst hA
          have HGX := Lib.hid (HF.out x (List.mem_of_getElem? hx))
          have HLD := Lib.hid (linesF_drop hx)
          obtain ⟨X1, xc1, X2, xc2, rfl, x1, x2, x3, x4, _, _⟩ := txK_form hKx
          unfold maxLen at x2 x4
          have hrx : wr.rangeAt b (o + j * 4) [.int .i32 x.ver, .slice X1 x.ins.length xc1, .slice X2 x.outs.length xc2, .int .u32 x.lock] := hcx
          have hi4 := info_tx4 (.int .i32 x.ver) (.slice X1 x.ins.length xc1) (.slice X2 x.outs.length xc2) (.int .u32 x.lock)
          rw [HLD.out] at hRq
          obtain ⟨N9, hN⟩ : ∃ N, (encF x).length = N := ⟨_, rfl⟩
          have hpos := encF_pos x
          have hml : m = N9 + (linesF (ts.drop (j + 1))).length := by have := hRq.1; rw [nums_length, List.length_append, hN] at this; omega
          have hmp : 0 < m := by omega
          obtain ⟨Dg, od, hDe, hDc⟩ := hRq.at_ 0 hmp
          have hDl := cell_lt hDc
          subst hDe
          have hNlt : N9 ≤ 65536 := by have := HGX.out.len; omega
          have hNm : N9 ≤ m := by omega
          have hby : Bytes (encF x ++ linesF (ts.drop (j + 1))) := HGX.out.bytes.append (linesF_fit _ (fun t ht => HF.out t (List.mem_of_mem_drop ht)))
          have hd := Lib.hid (dec_enc HGX.out.ok HGX.out.bounds HGX.out.len (linesF (ts.drop (j + 1))))
          have HN := Lib.hid hN
          have HBY := Lib.hid hby
          clear hx hcx hN hpos hDc hby hml
          go_upto_region 12 with (first
            | ((with_reducible refine wpList_at 30 ?_); refine wpList_load_mid rfl 69 (.tmp 29) rfl b (o + j * 4) rfl [.int .i32 x.ver, .slice X1 x.ins.length xc1, .slice X2 x.outs.length xc2, .int .u32 x.lock] _ hrx hU rfl hi4 ?_))
          refine wp_gen (q := fun wi => wi.heap[wr.heap.size]? = some (.cells ([.int .i32 x.ver, .slice X1 x.ins.length xc1, .slice X2 x.outs.length xc2, .int .u32 x.lock]).toArray 69) ∧ Below wr.heap.size wr wi) ⟨heap_alloc_new _ _, (Below.refl _ _).alloc (Nat.le_refl _) _⟩ (fun w4 hw => ?_)
          obtain ⟨g4, hb4⟩ := hw
          have hRq4 := hRq.below hb4
          have hDl4 : Dg < w4.heap.size := Nat.lt_of_lt_of_le hDl hb4.size
          have hB4 := below_then hbq hbq.size hb4
          have hq4 := below_then hBq hBq.size hb4
          have hKx4 := RK.K_below hKx hb4
          clear hrx hKx hRq hb4
          go_wp2_with fail
          refine (dec_calls w4 Dg od m d (encF x ++ linesF (ts.drop (j + 1))) hm1 hm2 hRq4 hDl4 HBY.out).mono ?_
          rintro e w9 ⟨cs9, rfl, hK9, _, hb9⟩
          have hK9 := hK9 hd.out.1
          rw [hd.out.2.2.1] at hK9
          rw [hd.out.1, hd.out.2.1, HN.out, if_pos rfl]
          have g9 := heap_below hb9 g4
          have hlg : wr.heap.size < w9.heap.size := heap_lt g9
          have hB9 := below_then hB4 hB4.size hb9
          have hq9 := below_then hq4 hq4.size hb9
          have hRq9 := hRq4.below hb9
          have hKx9 := RK.K_below hKx4 hb9
          obtain ⟨Y1, yc1, Y2, yc2, hcs9, _⟩ := txK_form hK9
          subst hcs9
          have hi9 := info_tx4 (.int .i32 x.ver) (.slice Y1 x.ins.length yc1) (.slice Y2 x.outs.length yc2) (.int .u32 x.lock)
          clear g4 hRq4 hB4 hq4 hKx4 hb9
          go_upto_region 13 with fail
          have hba : Below w9.heap.size w9 (w9.alloc (.cells ([.int .i32 x.ver, .slice Y1 x.ins.length yc1, .slice Y2 x.outs.length yc2, .int .u32 x.lock]).toArray 69)) := (Below.refl _ _).alloc (Nat.le_refl _) _
          refine wp_gen (q := fun wi => wi.heap[w9.heap.size]? = some (.cells ([.int .i32 x.ver, .slice Y1 x.ins.length yc1, .slice Y2 x.outs.length yc2, .int .u32 x.lock]).toArray 69) ∧ Below w9.heap.size w9 wi) ⟨heap_alloc_new _ _, hba⟩ (fun w10 hw => ?_)
          clear hba
          obtain ⟨g10, hb10⟩ := hw
          have hX10 := heap_below hb10 g9
          have hK10 := RK.K_below hK9 hb10
          have hKx10 := RK.K_below hKx9 hb10
          have hB10 := below_then hB9 hB9.size hb10
          have hq10 := below_then hq9 hq9.size hb10
          have hRq10 := hRq9.below hb10
          have hT10 := hT.below hB10
          have r9 : w10.drew.rangeAt w9.heap.size 0 [.int .i32 x.ver, .slice Y1 x.ins.length yc1, .slice Y2 x.outs.length yc2, .int .u32 x.lock] := range_block (xs := [.int .i32 x.ver, .slice Y1 x.ins.length yc1, .slice Y2 x.outs.length yc2, .int .u32 x.lock]) g10
          have r0 : w10.drew.rangeAt wr.heap.size 0 [.int .i32 x.ver, .slice X1 x.ins.length xc1, .slice X2 x.outs.length xc2, .int .u32 x.lock] := range_block (xs := [.int .i32 x.ver, .slice X1 x.ins.length xc1, .slice X2 x.outs.length xc2, .int .u32 x.lock]) hX10
          have hln := layF_le x (fun y hy => (HGX.out.ok.ins y hy).idl) HGX.out.bounds false
          have hlb := layF_bytes HGX.out.ok false
          obtain ⟨D0, hD0⟩ : ∃ D0, dblF (layF x false) = D0 := ⟨_, rfl⟩
          have hDl0 : D0.length = 32 := by rw [← hD0]; exact dblF_length _
          have HD0 := Lib.hid hD0
          have hEH := fun W => run_equalIn_nums (P := Tryd.prog) W 9998 25 5 32 .u8 .u8 Tryd.underlying25 Tryd.underlying5 info_u8 D0 D0 hDl0 hDl0
          simp only [beq_self_eq_true] at hEH
          clear g10 hX10 hK9 hKx9 hB9 hq9 hRq9 hb10 hD0 g9
          refine wp_region_noPanic ?_
          refine wp_region_held_drew (S := fun w' => w'.rangeAt w9.heap.size 0 [.int .i32 x.ver, .slice Y1 x.ins.length yc1, .slice Y2 x.outs.length yc2, .int .u32 x.lock] ∧ w'.rangeAt wr.heap.size 0 [.int .i32 x.ver, .slice X1 x.ins.length xc1, .slice X2 x.outs.length xc2, .int .u32 x.lock] ∧ Below w10.heap.size w10 w') (by kernel_rfl) ⟨r9, r0, Below.drew (Below.refl _ _)⟩ (fun hHeld => ?_)
          -- 0: law.go:271 slot 37 := Op.move t10
          refine wpAnyH_take (i := 0) (oi := ⟨some 37, _, _, _, _, _⟩) (v := ?_) rfl (by kernel_rfl) (by kernel_rfl) (by kernel_rfl) (fun _ _ _ h => h) (Or.inl ⟨by rfl, ?_⟩) (by assumption) ?_
          rotate_left 1
          · intro w hSw; (try dsimp only at hSw); go_simp; try with_reducible rfl
          simp only [Act.put, List.setIfInBounds_toArray, List.set_cons_zero, List.set_cons_succ]
          -- 1: law.go:271 slot 38 := Op.binOp BinOp.neq 47 t37 (const (0:i64)) 47
          refine wpAnyH_take (i := 1) (oi := ⟨some 38, _, _, _, _, _⟩) (v := ?_) rfl (by kernel_rfl) (by kernel_rfl) (by kernel_rfl) (fun _ _ _ h => h) (Or.inl ⟨by rfl, ?_⟩) (by assumption) ?_
          rotate_left 1
          · intro w hSw; (try dsimp only at hSw); go_simp; try with_reducible rfl
          simp only [Act.put, List.setIfInBounds_toArray, List.set_cons_zero, List.set_cons_succ]
          -- 2: law.go:271 slot 39 := Op.move t38
          refine wpAnyH_take (i := 2) (oi := ⟨some 39, _, _, _, _, _⟩) (v := ?_) rfl (by kernel_rfl) (by kernel_rfl) (by kernel_rfl) (fun _ _ _ h => h) (Or.inl ⟨by rfl, ?_⟩) (by assumption) ?_
          rotate_left 1
          · intro w hSw; (try dsimp only at hSw); go_simp; try with_reducible rfl
          simp only [Act.put, List.setIfInBounds_toArray, List.set_cons_zero, List.set_cons_succ]
          -- 3: law.go:271 slot 40 := Op.load 69 t8 [guarded: some (2, false)]
          refine wpAnyH_take (i := 3) (oi := ⟨some 40, _, _, _, _, _⟩) rfl (by kernel_rfl) (by kernel_rfl) (by kernel_rfl) (fun _ _ _ h => h) (yieldsIf_load_mid (by rfl) _ _ rfl _ _ rfl ([.int .i32 x.ver, .slice Y1 x.ins.length yc1, .slice Y2 x.outs.length yc2, .int .u32 x.lock]) _ (fun _ h => h.1) hU rfl hi9) (by assumption) ?_
          simp only [Act.put, List.setIfInBounds_toArray, List.set_cons_zero, List.set_cons_succ]
          -- 5: law.go:271 slot 42 := Op.load 69 t7 [guarded: some (2, false)]
          refine wpAnyH_take (i := 5) (oi := ⟨some 42, _, _, _, _, _⟩) rfl (by kernel_rfl) (by kernel_rfl) (by kernel_rfl) (fun _ _ _ h => h) (yieldsIf_load_mid (by rfl) _ _ rfl _ _ rfl ([.int .i32 x.ver, .slice X1 x.ins.length xc1, .slice X2 x.outs.length xc2, .int .u32 x.lock]) _ (fun _ h => h.2.1) hU rfl hi4) (by assumption) ?_
          simp only [Act.put, List.setIfInBounds_toArray, List.set_cons_zero, List.set_cons_succ]
          -- 4: law.go:271 slot 41 := Op.call { value (Operand.func 43), args := #[t40], argTypes := #[69] } [guarded: some (2, false)]
          refine wpAnyH_ready (rs := [4]) (by kernel_rfl) (by simp) ?_
          refine AllReadyH.cons (o := ⟨some 41, _, _, _, _, _⟩) rfl (fun K hK => ?_) AllReadyH.nil
          go_simp
          refine (txid_calls _ (hT10.below hHeld.2.2) _ x [.int .i32 x.ver, .slice Y1 x.ins.length yc1, .slice Y2 x.outs.length yc2, .int .u32 x.lock] (RK.K_below hK10 hHeld.2.2) hln hlb).mono ?_
          rintro e w14 ⟨rfl, hbz⟩
          rw [HD0.out]
          refine hK.out _ _ ⟨range_below hbz hHeld.1, range_below hbz hHeld.2.1, below_then hHeld.2.2 hHeld.2.2.size hbz⟩ (fun hHeld' => ?_)
          clear hHeld
          have hHeld := hHeld'
          clear hHeld'
          clear hK K
          try (simp only [Act.put, List.setIfInBounds_toArray, List.set_cons_zero, List.set_cons_succ])
          -- 6: law.go:271 slot 43 := Op.call { value (Operand.func 43), args := #[t42], argTypes := #[69] } [guarded: some (2, false)]
          refine wpAnyH_ready (rs := [6]) (by kernel_rfl) (by simp) ?_
          refine AllReadyH.cons (o := ⟨some 43, _, _, _, _, _⟩) rfl (fun K hK => ?_) AllReadyH.nil
          go_simp
          refine (txid_calls _ (hT10.below hHeld.2.2) _ x [.int .i32 x.ver, .slice X1 x.ins.length xc1, .slice X2 x.outs.length xc2, .int .u32 x.lock] (RK.K_below hKx10 hHeld.2.2) hln hlb).mono ?_
          rintro e w15 ⟨rfl, hbz⟩
          rw [HD0.out]
          refine hK.out _ _ ⟨range_below hbz hHeld.1, range_below hbz hHeld.2.1, below_then hHeld.2.2 hHeld.2.2.size hbz⟩ (fun hHeld' => ?_)
          clear hHeld
          have hHeld := hHeld'
          clear hHeld'
          clear hK K
          try (simp only [Act.put, List.setIfInBounds_toArray, List.set_cons_zero, List.set_cons_succ])
          -- 7: law.go:271 slot 44 := Op.binOp BinOp.neq 25 t41 t43 25 [guarded: some (2, false)]
          refine wpAnyH_take (i := 7) (oi := ⟨some 44, _, _, _, _, _⟩) (v := ?_) rfl (by kernel_rfl) (by kernel_rfl) (by kernel_rfl) (fun _ _ _ h => h) (Or.inl ⟨by rfl, ?_⟩) (by assumption) ?_
          rotate_left 1
          · intro w hSw; (try dsimp only at hSw); go_simp; try with_reducible rfl
          simp only [Act.put, List.setIfInBounds_toArray, List.set_cons_zero, List.set_cons_succ]
          -- 8: law.go:271 slot 45 := Op.pick t39 (const (Value.bool true)) t44
          refine wpAnyH_take (i := 8) (oi := ⟨some 45, _, _, _, _, _⟩) (v := ?_) rfl (by kernel_rfl) (by kernel_rfl) (by kernel_rfl) (fun _ _ _ h => h) (Or.inl ⟨by rfl, ?_⟩) (by assumption) ?_
          rotate_left 1
          · intro w hSw; (try dsimp only at hSw); go_simp; try with_reducible rfl
          simp only [Act.put, List.setIfInBounds_toArray, List.set_cons_zero, List.set_cons_succ]
          refine wpAnyH_done (by kernel_rfl) ?_ _
          refine NoPanic.normal ?_
          have hqf := below_then hq10 hq10.size hHeld.2.2
          have hRf := hRq10.below hHeld.2.2
          have kt := fun W => cut_tail (some ⟨Dg, od, none⟩) m d N9 hNm W
          have hRn := rd_cutA hRf N9 hNm hm1
          have hnd : (nums .u8 (encF x ++ linesF (ts.drop (j + 1)))).drop N9 = nums .u8 (linesF (ts.drop (j + 1))) := by rw [nums_append, List.drop_left' (by rw [nums_length]; exact HN.out)]
          rw [hnd] at hRn
          clear hHeld hnd hRf hRq10 hK10 hKx10 r9 r0 hq10 hB10 hEH
          go_upto_region 15 with fail
          go_wp2
          go_roundw
          case rel => exact ⟨j + 1, m - N9, d - N9, _, by omega, by go_num, rfl, by omega, by omega, hRn, hqf⟩
          case measure => simp [intOf]; omega
        · have hjl' : ¬ (j : Int) < (n : Int) := by omega
          have hm0 : m = 0 := by
            have := hRq.1
            rw [nums_length, List.drop_eq_nil_of_le (by rw [HL.out]; omega)] at this
            exact this.symm
          subst hm0
          go_wp2
          go_ret
          exact ⟨rfl, hbq⟩
    · obtain rfl := he1 hE
      have hEq : (encBErr ts == 0) = false := beq_eq_false_iff_ne.2 hE
      clear he1 he0
      go_wp2
      go_ret
      exact ⟨rfl, hB3⟩
end Go.Proofs.YtjlkakggmfmfiaaDoor
