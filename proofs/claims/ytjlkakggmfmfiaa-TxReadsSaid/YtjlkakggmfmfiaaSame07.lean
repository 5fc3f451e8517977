/- tailraceref07.Same: transactions of one content are the same. -/
import Derived.Test.YtjlkakggmfmfiaaBase
import Derived.Test.YtjlkakggmfmfiaaBuildIn
import Derived.Laws.StructEq
import Derived.Deep.QuietTactic
set_option maxRecDepth 100000
set_option linter.unusedVariables false
namespace Go.Proofs.Ytjlkakggmfmfiaa
open Go Go.RowKit
theorem same_h32 (xs : List Int) (hx : xs.length = 32) (W : World) : (Op.equalIn 10000 22 (.agg (nums .u8 xs).toArray) (.agg (nums .u8 xs).toArray)).run Try.prog W = .ok true W := by
  rw [run_equalIn_nums (P := Try.prog) W 9998 22 5 32 .u8 .u8 Try.underlying22 Try.underlying5 info_u8 xs xs hx hx, beq_self_eq_true]
theorem part_str (t : TypeId) (ht : Try.prog.underlying t = some .string) (cs : List Value) (off : Nat) (v : Value) (hx : cs[off]? = some v) (W : World) : (part t cs.toArray off).run Try.prog W = .ok v W := by
  simp [part, isAgg, run_underlying ht, hx]
theorem part_int (t : TypeId) (k : IntKind) (ht : Try.prog.underlying t = some (.int k)) (cs : List Value) (off : Nat) (v : Value) (hx : cs[off]? = some v) (W : World) : (part t cs.toArray off).run Try.prog W = .ok v W := by
  simp [part, isAgg, run_underlying ht, hx]
theorem same_out (c : Int) (s : ByteArray) (W : World) : (Op.equalIn 10000 70 (.agg #[.int .i64 c, .string s]) (.agg #[.int .i64 c, .string s])).run Try.prog W = .ok true W := by
  rw [run_equalIn_struct W 9999 70 _ _ (by kernel_rfl) (by kernel_rfl)]
  have p0 := part_int 2 .i64 Try.underlying2 [.int .i64 c, .string s] 0 _ rfl
  have p1 := part_str 9 Try.underlying9 [.int .i64 c, .string s] 1 _ rfl
  simp only [Program.fieldsOf, Try.underlying70]
  simp [Op.eqFields, p0, p1, run_equalIn_int _ 9998 _ _ _ _ _ Try.underlying2, run_equalIn_string _ 9998 _ _ _ Try.underlying9]
theorem rinfo_in (x : TIn) (h : x.id.length = 32) (v : Value) : (Try.prog.info? 69).map (·.size) = some (inCells x v).length := by rw [inCells_length h]; kernel_rfl
theorem rinfo_inA (x : TIn) (h : x.id.length = 32) (v : Value) : (Try.prog.info? 69).map (·.size) = some (inCells x v).toArray.size := by rw [List.size_toArray]; exact rinfo_in x h v
set_option maxHeartbeats 4000000 in
theorem same_calls (w : World) (S1 S2 : Nat → Prop) (t : TTx) (cs1 cs2 : List Value) (hK1 : txK.K S1 w t cs1) (hK2 : txK.K S2 w t cs2) : Calls Try.prog 19 #[.agg cs1.toArray, .agg cs2.toArray] w fun e w' => e = .returned (.bool true) ∧ Below w.heap.size w w' := by
  obtain ⟨A1, c1, A2, c2, rfl, h1, h2, h3, h4, hI, hO⟩ := txK_form hK1
  obtain ⟨B1, d1, B2, d2, rfl, k1, k2, k3, k4, hJ, hP⟩ := txK_form hK2
  have hU2 := Try.underlying69
  unfold maxLen at h2 h4 k2 k4
  obtain ⟨n1, hi1⟩ : ∃ n1, t.ins.length = n1 := ⟨_, rfl⟩
  obtain ⟨n2, hi2⟩ : ∃ n2, t.outs.length = n2 := ⟨_, rfl⟩
  rw [hi1] at h1 hI k1 hJ ⊢
  rw [hi2] at h3 hO k3 hP ⊢
  clear hi1 hi2 hK1 hK2
  have hn1 : (n1 : Int) ≤ 9223372036854775807 := by omega
  have hn2 : (n2 : Int) ≤ 9223372036854775807 := by omega
  go_enter Try.func19, Try.ntmps19
  go_upto_region 1 with fail
  have hb0 : Below w.heap.size w ((w.alloc (.cells (tCells t.ver (.slice A1 n1 c1) (.slice A2 n2 c2) t.lock) 46)).alloc (.cells (tCells t.ver (.slice B1 n1 d1) (.slice B2 n2 d2) t.lock) 46)) := ((Below.refl _ _).alloc (Nat.le_refl _) _).alloc (by simp) _
  have g0 : ((w.alloc (.cells (tCells t.ver (.slice A1 n1 c1) (.slice A2 n2 c2) t.lock) 46)).alloc (.cells (tCells t.ver (.slice B1 n1 d1) (.slice B2 n2 d2) t.lock) 46)).heap[w.heap.size]? = some (.cells (tCells t.ver (.slice A1 n1 c1) (.slice A2 n2 c2) t.lock) 46) := heap_alloc2_old _ _ _
  have g1 : ((w.alloc (.cells (tCells t.ver (.slice A1 n1 c1) (.slice A2 n2 c2) t.lock) 46)).alloc (.cells (tCells t.ver (.slice B1 n1 d1) (.slice B2 n2 d2) t.lock) 46)).heap[w.heap.size + 1]? = some (.cells (tCells t.ver (.slice B1 n1 d1) (.slice B2 n2 d2) t.lock) 46) := heap_alloc2_new _ _ _
  refine wp_gen (q := fun wi => Below w.heap.size w wi ∧ wi.heap[w.heap.size]? = some (.cells (tCells t.ver (.slice A1 n1 c1) (.slice A2 n2 c2) t.lock) 46) ∧ wi.heap[w.heap.size + 1]? = some (.cells (tCells t.ver (.slice B1 n1 d1) (.slice B2 n2 d2) t.lock) 46)) ⟨hb0, g0, g1⟩ (fun w0 hw => ?_)
  clear hb0 g0 g1
  obtain ⟨hb0, g0, g1⟩ := hw
  have x0 : w0.cell? ⟨w.heap.size, 0, none⟩ = some (.int .i32 t.ver) := blk_cell g0 rfl
  have x1 : w0.cell? ⟨w.heap.size, 1, none⟩ = some (.slice A1 n1 c1) := blk_cell g0 rfl
  have x2 : w0.cell? ⟨w.heap.size, 2, none⟩ = some (.slice A2 n2 c2) := blk_cell g0 rfl
  have x3 : w0.cell? ⟨w.heap.size, 3, none⟩ = some (.int .u32 t.lock) := blk_cell g0 rfl
  have y0 : w0.cell? ⟨w.heap.size + 1, 0, none⟩ = some (.int .i32 t.ver) := blk_cell g1 rfl
  have y1 : w0.cell? ⟨w.heap.size + 1, 1, none⟩ = some (.slice B1 n1 d1) := blk_cell g1 rfl
  have y2 : w0.cell? ⟨w.heap.size + 1, 2, none⟩ = some (.slice B2 n2 d2) := blk_cell g1 rfl
  have y3 : w0.cell? ⟨w.heap.size + 1, 3, none⟩ = some (.int .u32 t.lock) := blk_cell g1 rfl
  have hI0 := RK.C.below hI hb0
  have hO0 := RK.C.below hO hb0
  have hJ0 := RK.C.below hJ hb0
  have hP0 := RK.C.below hP hb0
  clear g0 g1 hI hO hJ hP
  go_wp2
  go_loopw [43] (fun v43 wr => ∃ k : Nat, k ≤ n1 ∧ v43 = .int .i64 k ∧ Below w0.heap.size w0 wr) (fun v _ => n1 - (intOf v).toNat)
  case atStart => exact ⟨0, by omega, rfl, Below.refl _ _⟩
  case round =>
    obtain ⟨k, hk, rfl, hB⟩ := hrel
    by_cases hlt : k < n1
    · have hlt' : (k : Int) < (n1 : Int) := by omega
      have hkk : (0 : Int) ≤ (k : Int) := by omega
      obtain ⟨b, o, x, Aw, nw, cw, hA1, hx, hrg0, hok, hw1, hw2, hwc⟩ := in_at hI0 k hlt
      obtain ⟨bb, oo, x', Bw, mw, dw, hB1, hx', hrg1, _, hv1, hv2, hvc⟩ := in_at hJ0 k hlt
      obtain rfl : x = x' := Option.some.inj (hx.symm.trans hx')
      have hnm : mw = nw := hvc.len.symm.trans hwc.len
      subst hnm
      have hrgA := range_below hB hrg0
      have hidl := hok.idl
      have iA := rinfo_in x hidl (.slice Aw mw cw)
      have iB := rinfo_in x hidl (.slice Bw mw dw)
      unfold maxLen at hw2 hv2
      subst hA1
      subst hB1
      have x1r := cell_below hB x1
      have y1r := cell_below hB y1
      have HX := Lib.hid hx
      clear hx hx' hrg0
      go_upto_region 7 with (first | ((with_reducible refine wpList_at 50 ?_); refine wpList_load_mid rfl 69 (.tmp 49) rfl b (o + k * 36) rfl (inCells x (.slice Aw mw cw)) _ hrgA hU2 rfl iA ?_) | ((with_reducible refine wpList_atS 6 ?_); refine wpList_store_any rfl 69 (.tmp 6) (.tmp 50) rfl wr.heap.size (inCells x (.slice Aw mw cw)).toArray rfl rfl 69 (inCells in0 (.slice none 0 0)).toArray (heap_alloc_new _ _) (rinfo_inA x hidl _) (in_sizes x hidl _) (in_one x _ rfl) ?_; intro w2 g2 ht2))
      have hb2 : Below wr.heap.size wr w2 := ht2.below ((Below.refl wr.heap.size wr).alloc (Nat.le_refl _) _) (Nat.le_refl _)
      have hB2 := below_then hB hB.size hb2
      have hrgB := range_below hB2 hrg1
      have y1q := cell_below hB2 y1
      have hsz2 : wr.heap.size < w2.heap.size := heap_lt g2
      clear ht2 hb2 hrgA hrg1 x1r y1r
      go_upto_region 8 with (first | ((with_reducible refine wpList_at 55 ?_); refine wpList_load_mid rfl 69 (.tmp 54) rfl bb (oo + k * 36) rfl (inCells x (.slice Bw mw dw)) _ hrgB hU2 rfl iB ?_) | ((with_reducible refine wpList_atS 7 ?_); refine wpList_store_any rfl 69 (.tmp 7) (.tmp 55) rfl w2.heap.size (inCells x (.slice Bw mw dw)).toArray rfl rfl 69 (inCells in0 (.slice none 0 0)).toArray (heap_alloc_new _ _) (rinfo_inA x hidl _) (in_sizes x hidl _) (in_one x _ rfl) ?_; intro w3 g3 ht3))
      have hb3 : Below w2.heap.size w2 w3 := ht3.below ((Below.refl w2.heap.size w2).alloc (Nat.le_refl _) _) (Nat.le_refl _)
      have hB3 := below_then hB2 hB2.size hb3
      have g2' := heap_below hb3 g2
      have rA : w3.rangeAt wr.heap.size 0 (nums .u8 x.id) := fun j v hv => by
        have := range_block (xs := inCells x (.slice Aw mw cw)) g2' j v (by unfold inCells; rw [List.getElem?_append_left (List.getElem?_eq_some_iff.1 hv).1]; exact hv)
        exact this
      have rB : w3.rangeAt w2.heap.size 0 (nums .u8 x.id) := fun j v hv => by
        have := range_block (xs := inCells x (.slice Bw mw dw)) g3 j v (by unfold inCells; rw [List.getElem?_append_left (List.getElem?_eq_some_iff.1 hv).1]; exact hv)
        exact this
      have s0 : w3.cell? ⟨wr.heap.size, 32, none⟩ = some (.int .u32 x.out) := blk_cell g2' (by rw [List.getElem?_toArray]; exact inCells_at hidl _ 0)
      have s1 : w3.cell? ⟨wr.heap.size, 33, none⟩ = some (.string x.script) := blk_cell g2' (by rw [List.getElem?_toArray]; exact inCells_at hidl _ 1)
      have s2 : w3.cell? ⟨wr.heap.size, 34, none⟩ = some (.int .u32 x.seq) := blk_cell g2' (by rw [List.getElem?_toArray]; exact inCells_at hidl _ 2)
      have s3 : w3.cell? ⟨wr.heap.size, 35, none⟩ = some (.slice Aw mw cw) := blk_cell g2' (by rw [List.getElem?_toArray]; exact inCells_at hidl _ 3)
      have q0 : w3.cell? ⟨w2.heap.size, 32, none⟩ = some (.int .u32 x.out) := blk_cell g3 (by rw [List.getElem?_toArray]; exact inCells_at hidl _ 0)
      have q1 : w3.cell? ⟨w2.heap.size, 33, none⟩ = some (.string x.script) := blk_cell g3 (by rw [List.getElem?_toArray]; exact inCells_at hidl _ 1)
      have q2 : w3.cell? ⟨w2.heap.size, 34, none⟩ = some (.int .u32 x.seq) := blk_cell g3 (by rw [List.getElem?_toArray]; exact inCells_at hidl _ 2)
      have q3 : w3.cell? ⟨w2.heap.size, 35, none⟩ = some (.slice Bw mw dw) := blk_cell g3 (by rw [List.getElem?_toArray]; exact inCells_at hidl _ 3)
      have ii : (Try.prog.info? 22).map (·.size) = some (nums .u8 x.id).length := by rw [nums_length, hidl]; kernel_rfl
      have heq := same_h32 x.id hidl
      have hwA : RK.str.C S1 w3 Aw mw x.wit := RK.C.below (RK.C.below hwc (Below.refl _ _)) hB3
      have hwB : RK.str.C S2 w3 Bw mw x.wit := RK.C.below (RK.C.below hvc (Below.refl _ _)) hB3
      have hsc := hok.sc
      unfold maxLen at hsc
      clear ht3 hb3 hrgB g2 g2' g3 y1q hwc hvc hok
      go_upto_region 9 with (first
        | ((with_reducible refine wpList_at 57 ?_); refine wpList_load_mid rfl 22 (.tmp 56) rfl wr.heap.size 0 rfl (nums .u8 x.id) _ rA Try.underlying22 rfl ii ?_)
        | ((with_reducible refine wpList_at 59 ?_); refine wpList_load_mid rfl 22 (.tmp 58) rfl w2.heap.size 0 rfl (nums .u8 x.id) _ rB Try.underlying22 rfl ii ?_))
      clear rA rB s0 s1 s2 q0 q1 q2 heq hsc
      go_wp2
      go_loopw [94] (fun v94 wq => ∃ j : Nat, j ≤ mw ∧ v94 = .int .i64 j ∧ Below w3.heap.size w3 wq) (fun v _ => mw - (intOf v).toNat)
      case atStart => exact ⟨0, by omega, rfl, Below.refl _ _⟩
      case round =>
        obtain ⟨j, hj, rfl, hBq⟩ := hrel
        by_cases hjl : j < mw
        · have hjl' : (j : Int) < (mw : Int) := by omega
          have hjj : (0 : Int) ≤ (j : Int) := by omega
          obtain ⟨ba, oa, s, hAw, hxs, hcs, hss⟩ := str_at hwA j hjl
          obtain ⟨bc, oc, s', hBw, hxs', hcs', _⟩ := str_at hwB j hjl
          obtain rfl : s = s' := Option.some.inj (hxs.symm.trans hxs')
          subst hAw
          subst hBw
          have e1 := cell_below hBq hcs
          have e2 := cell_below hBq hcs'
          have e3 := cell_below hBq s3
          have e4 := cell_below hBq q3
          have HXS := Lib.hid hxs
          clear hxs hxs' hcs hcs'
          go_upto_region 13 with fail
          go_quiet (fail)
          go_wp2
          go_roundw
          case rel => exact ⟨j + 1, by omega, by go_num, below_drewN hBq _⟩
          case measure => simp [intOf]; omega
        · have hjl' : ¬ (j : Int) < (mw : Int) := by omega
          have hB4 := below_then hB3 hB3.size hBq
          go_wp2
          go_roundw
          case rel => exact ⟨k + 1, by omega, by go_num, hB4⟩
          case measure => simp [intOf]; omega
    · have hlt' : ¬ (k : Int) < (n1 : Int) := by omega
      have x2r := cell_below hB x2
      have y2r := cell_below hB y2
      have hOr := RK.C.below hO0 hB
      have hPr := RK.C.below hP0 hB
      go_wp2
      go_loopw [113] (fun v113 wq => ∃ j : Nat, j ≤ n2 ∧ v113 = .int .i64 j ∧ Below wr.heap.size wr wq) (fun v _ => n2 - (intOf v).toNat)
      case atStart => exact ⟨0, by omega, rfl, Below.refl _ _⟩
      case round =>
        obtain ⟨j, hj, rfl, hBq⟩ := hrel
        by_cases hjl : j < n2
        · have hjl' : (j : Int) < (n2 : Int) := by omega
          have hjj : (0 : Int) ≤ (j : Int) := by omega
          obtain ⟨bo, oo, x, hAo, hxo, hc0, hc1, hoo⟩ := out_at hOr j hjl
          obtain ⟨bp, op, x', hBo, hxo', hd0, hd1, _⟩ := out_at hPr j hjl
          obtain rfl : x = x' := Option.some.inj (hxo.symm.trans hxo')
          subst hAo
          subst hBo
          have e1 := cell_below hBq hc0
          have e2 := cell_below hBq hc1
          have e3 := cell_below hBq hd0
          have e4 := cell_below hBq hd1
          have e5 := cell_below hBq x2r
          have e6 := cell_below hBq y2r
          have heq := same_out x.coins x.script
          have HXO := Lib.hid hxo
          clear hxo hxo' hc0 hc1 hd0 hd1
          go_upto_region 20 with fail
          go_quiet (fail)
          go_wp2
          go_roundw
          case rel => exact ⟨j + 1, by omega, by go_num, below_drewN hBq _⟩
          case measure => simp [intOf]; omega
        · have hjl' : ¬ (j : Int) < (n2 : Int) := by omega
          have hBf := below_then (below_then hb0 hb0.size hB) (below_then hb0 hb0.size hB).size hBq
          go_wp2
          go_ret
          exact ⟨rfl, hBf⟩
end Go.Proofs.Ytjlkakggmfmfiaa
