/- TxIds: for every transaction and every witness, the law's call returns true and changes nothing: its number is the digest of its bytes without witnesses, whatever its witnesses are. -/
import Derived.Test.YtjlkakggmfmfiaaDoorTxIdL
set_option maxRecDepth 100000
set_option linter.unusedVariables false
namespace Go.Proofs.YtjlkakggmfmfiaaDoor
open Go Go.RowKit
set_option maxHeartbeats 8000000 in
theorem txIds_walk (w : World) (hT : Tabs w) (t : TTx) (cs : List Value) (hK : txK.K (· < w.heap.size) w t cs) (Aw : Option Addr) (nw cw : Nat) (ws : List ByteArray) (hw1 : nw ≤ cw) (hw2 : cw ≤ maxLen) (hW : RK.str.C (· < w.heap.size) w Aw nw ws) :
    Calls Tryd.prog 12 #[.agg cs.toArray, .slice Aw nw cw] w fun e w' => e = .returned (.bool true) ∧ Below w.heap.size w w' := by
  have hU := Tryd.underlying69
  have hUH := Tryd.underlying25
  have hU2 := Tryd.underlying80
  have hok := txK_okT hK
  have hvl := txK_vl hK
  have hwl := hW.len
  obtain ⟨A1, c1, A2, c2, rfl, h1, h2, h3, h4, hI, hO⟩ := txK_form hK
  obtain ⟨n1, hi1⟩ : ∃ n1, t.ins.length = n1 := ⟨_, rfl⟩
  obtain ⟨n2, hi2⟩ : ∃ n2, t.outs.length = n2 := ⟨_, rfl⟩
  rw [hi1] at h1 hI hK ⊢
  rw [hi2] at h3 hO hK ⊢
  have HI1 := Lib.hid hi1
  have hm4 := h4
  have hmw := hw2
  unfold maxLen at h2 h4 hw2
  have hnwI : (nw : Int) ≤ 9223372036854775807 := by omega
  have HWL := Lib.hid hwl
  have hb0 : Below w.heap.size w (w.alloc (.cells (tCells t.ver (.slice A1 n1 c1) (.slice A2 n2 c2) t.lock) 69)) := (Below.refl _ _).alloc (Nat.le_refl _) _
  have hg0 := heap_alloc_new w (.cells (tCells t.ver (.slice A1 n1 c1) (.slice A2 n2 c2) t.lock) 69)
  clear hi1 hi2 hwl
  go_enter Tryd.func12, Tryd.ntmps12
  go_upto_region 1 with fail
  refine wp_gen (q := fun wi => Below w.heap.size w wi ∧ wi.heap[w.heap.size]? = some (.cells (tCells t.ver (.slice A1 n1 c1) (.slice A2 n2 c2) t.lock) 69)) ⟨hb0, hg0⟩ (fun w0 hw => ?_)
  clear hb0 hg0
  obtain ⟨hb0, hg0⟩ := hw
  go_wp2_with fail
  refine (head07_calls w0).mono ?_
  rintro e w1 ⟨rfl, hb1⟩
  have hg1 := heap_below hb1 hg0
  have hB1 := below_then hb0 hb0.size hb1
  have hi4 := info_tx4 (.int .i32 t.ver) (.slice A1 n1 c1) (.slice A2 n2 c2) (.int .u32 t.lock)
  clear hg0 hb0 hb1
  go_wp2_with (first | ((with_reducible refine wpList_at 14 ?_); refine wpList_load_row rfl 69 (.tmp 2) rfl w.heap.size rfl 69 _ _ _ hg1 hU rfl hi4 ?_))
  refine (big_calls w1 _ t [.int .i32 t.ver, .slice A1 n1 c1, .slice A2 n2 c2, .int .u32 t.lock] (RK.K_below hK hB1)).mono ?_
  rintro e w2 ⟨b, rfl, hbn, hb2⟩
  have hg2 := heap_below hb2 hg1
  have hB2 := below_then hB1 hB1.size hb2
  clear hg1 hB1 hb2
  cases b with
  | true =>
    clear hbn
    go_wp2
    go_ret
    exact ⟨rfl, hB2⟩
  | false =>
    have HBQ : Hid (t.ins.length ≤ 1030) := Lib.hid (hbn rfl).1
    clear hbn
    by_cases hn : 20 < nw
    · have hn' : (20 : Int) < (nw : Int) := by omega
      go_wp2
      go_ret
      exact ⟨rfl, hB2⟩
    · have hn' : decide ((20 : Int) < (nw : Int)) = false := decide_eq_false (by omega)
      go_wp2_with (first | ((with_reducible refine wpList_at 22 ?_); refine wpList_load_rowG rfl 69 (.tmp 2) rfl w.heap.size rfl 69 _ _ _ hg2 hU rfl hi4 ?_))
      refine (check_calls w2 _ t [.int .i32 t.ver, .slice A1 n1 c1, .slice A2 n2 c2, .int .u32 t.lock] (RK.K_below hK hB2)).mono ?_
      rintro e w3 ⟨rfl, hb3⟩
      have hg3 := heap_below hb3 hg2
      have hB3 := below_then hB2 hB2.size hb3
      clear hg2 hB2 hb3
      by_cases hck : checkF t = 0
      · have hck' : (checkF t != 0) = false := by rw [hck]; rfl
        have hbd := checkF_zero hck
        have hll := layF_le t (fun x hx => (hok.ins x hx).idl) hbd false
        have hlby := layF_bytes hok false
        obtain ⟨D0, hD0⟩ : ∃ D0, dblF (layF t false) = D0 := ⟨_, rfl⟩
        have hDl : D0.length = 32 := by rw [← hD0]; exact dblF_length _
        have HD0 := Lib.hid hD0
        have HBD := Lib.hid hbd
        have HLL := Lib.hid hll
        have HBY := Lib.hid hlby
        have hn1p : 0 < n1 := by have := hbd.i0; have := HI1.out; omega
        clear hck hD0 hbd hll hlby
        go_wp2_with (first | ((with_reducible refine wpList_at 26 ?_); refine wpList_load_row rfl 69 (.tmp 2) rfl w.heap.size rfl 69 _ _ _ hg3 hU rfl hi4 ?_))
        refine (txid_calls w3 (hT.below hB3) _ t [.int .i32 t.ver, .slice A1 n1 c1, .slice A2 n2 c2, .int .u32 t.lock] (RK.K_below hK hB3) HLL.out HBY.out).mono ?_
        rintro e w4 ⟨rfl, hb4⟩
        rw [HD0.out]
        have hg4 := heap_below hb4 hg3
        have hgw : w.heap.size < w4.heap.size := heap_lt hg4
        have hB4 := below_then hB3 hB3.size hb4
        clear hg3 hB3 hb4
        have hin := info_h D0 hDl
        have hsz := size_h D0 hDl
        go_upto_region 6 with (first | ((with_reducible refine wpList_atS 5 ?_); refine wpList_store_any rfl 25 (.tmp 5) (.tmp 27) rfl w4.heap.size (nums .u8 D0).toArray rfl rfl 25 (nums .u8 zeros32).toArray (heap_alloc_new _ _) hin hsz (nums_all _ _) ?_; intro w5 h5 ht5))
        have hb5 : Below w4.heap.size w4 w5 := ht5.below ((Below.refl w4.heap.size w4).alloc (Nat.le_refl _) _) (Nat.le_refl _)
        have hs5 : w5.heap.size = w4.heap.size + 1 := by rw [ht5.size]; simp
        have hg5 := heap_below hb5 hg4
        have hB5 := below_then hB4 hB4.size hb5
        have hiB0 := info_tx4 (.int .i32 t.ver) (.slice A1 n1 c1) (.slice A2 n2 c2) (.int .u32 t.lock)
        clear ht5 hg4 hB4 hin hsz
        go_upto_region 8 with (first | ((with_reducible refine wpList_at 28 ?_); refine wpList_load_row rfl 69 (.tmp 2) rfl w.heap.size rfl 69 _ _ _ hg5 hU rfl hi4 ?_))
        have hgb1 := heap_alloc_new w5 (.cells (tCells t.ver (.slice none 0 0) (.slice A2 n2 c2) t.lock) 69)
        have hbb : Below w5.heap.size w5 (w5.alloc (.cells (tCells t.ver (.slice none 0 0) (.slice A2 n2 c2) t.lock) 69)) := (Below.refl _ _).alloc (Nat.le_refl _) _
        have h5' := heap_below hbb h5
        have hg6 := heap_below hbb hg5
        have hB6 := below_then hB5 hB5.size hbb
        have hs6 : w4.heap.size + 1 + 1 ≤ (w5.alloc (.cells (tCells t.ver (.slice none 0 0) (.slice A2 n2 c2) t.lock) 69)).heap.size := by simp [hs5]
        rw [hs5] at hgb1
        refine wp_gen (q := fun wi => wi.heap[w4.heap.size]? = some (.cells (nums .u8 D0).toArray 25) ∧ wi.heap[w4.heap.size + 1]? = some (.cells (tCells t.ver (.slice none 0 0) (.slice A2 n2 c2) t.lock) 69) ∧ wi.heap[w.heap.size]? = some (.cells (tCells t.ver (.slice A1 n1 c1) (.slice A2 n2 c2) t.lock) 69) ∧ Below w.heap.size w wi ∧ w4.heap.size + 1 + 1 ≤ wi.heap.size) ⟨h5', hgb1, hg6, hB6, hs6⟩ (fun w6 hw => ?_)
        clear hgb1 hbb h5' hg6 hB6 hs6 h5 hb5 hs5 hg5 hB5
        obtain ⟨h6, hb6, hg6, hB6, hs6⟩ := hw
        have hI6 := RK.C.below hI hB6
        have x1 := blk_cell hg6 (i := 1) (v := .slice A1 n1 c1) rfl
        have hE0 : InOwn w6 (w4.heap.size + 1 + 1) (.slice none 0 0) 0 [] := RK.Own.nil _ _ _ _ _
        have hBs : w.heap.size + 1 ≤ w4.heap.size := hgw
        go_wp2
        go_loopw [33] (fun v33 wr => ∃ (k : Nat) (A : Option Addr) (N c : Nat), k ≤ n1 ∧ v33 = .int .i64 k ∧ N = k ∧ InOwn wr (w4.heap.size + 1 + 1) (.slice A N c) N ((t.ins.take k).map TIn.bare) ∧ wr.heap[w4.heap.size]? = some (.cells (nums .u8 D0).toArray 25) ∧ wr.heap[w4.heap.size + 1]? = some (.cells (tCells t.ver (.slice A N c) (.slice A2 n2 c2) t.lock) 69) ∧ wr.heap[w.heap.size]? = some (.cells (tCells t.ver (.slice A1 n1 c1) (.slice A2 n2 c2) t.lock) 69) ∧ Below w.heap.size w wr ∧ w4.heap.size + 1 + 1 ≤ wr.heap.size) (fun v _ => n1 - (intOf v).toNat)
        case atStart => exact ⟨0, none, 0, 0, by omega, rfl, rfl, hE0, h6, hb6, hg6, hB6, hs6⟩
        case round =>
          clear hE0 h6 hb6 hg6 hB6 hs6 hI6 x1
          obtain ⟨k, A, N, c, hk, rfl, hNk, hE, h6, hb6, hg6, hB, hs⟩ := hrel
          have HNK := Lib.hid hNk
          clear hNk
          by_cases hlt : k < n1
          · have hlt' : (k : Int) < (n1 : Int) := by omega
            have hkk : (0 : Int) ≤ (k : Int) := by omega
            obtain ⟨b, o, x, Ax, nx, cx, hA1, hx, hrg0, hox, _, _, _⟩ := in_at (RK.C.below hI hB) k hlt
            have hidl := hox.idl
            have i1 := info_in x hidl (.slice Ax nx cx)
            have HX := Lib.hid hx
            subst hA1
            clear hx
            go_upto_region 11 with (first | ((with_reducible refine wpList_at 36 ?_); refine wpList_load_mid rfl 80 (.tmp 35) rfl b (o + k * 36) rfl (inCells x (.slice Ax nx cx)) _ hrg0 hU2 rfl i1 ?_) | ((with_reducible refine wpList_atS 8 ?_); refine wpList_store_any rfl 80 (.tmp 8) (.tmp 36) rfl wr.heap.size (inCells x (.slice Ax nx cx)).toArray rfl rfl 80 (inCells in0 (.slice none 0 0)).toArray (heap_alloc_new _ _) (info_inA x hidl _) (in_sizes x hidl _) (in_one x _ rfl) ?_; intro w7 g7 ht7))
            have hb7 : Below wr.heap.size wr w7 := ht7.below ((Below.refl wr.heap.size wr).alloc (Nat.le_refl _) _) (Nat.le_refl _)
            have h67 := heap_below hb7 h6
            have hb67 := heap_below hb7 hb6
            have hg67 := heap_below hb7 hg6
            have hE7 := RK.Own.below hE hb7
            have hB7 := below_then hB hB.size hb7
            have hs7 := Nat.le_trans hs hb7.size
            have c35 := blk_cell g7 (i := 35) (v := .slice Ax nx cx) (by rw [List.getElem?_toArray]; exact inCells_at hidl _ 3)
            have f35 := blk_frozen g7 35
            have hlwr := hs
            have hnex : some wr.heap.size ≠ (Value.slice A N c).ownBlock := fun e => by have := (RK.Own.lt hE _ e.symm).2; omega
            clear ht7 hb7 h6 hb6 hg6 hE hB hs hrg0
            go_upto_region 12 with fail
            have htx := turned_setCell w7 wr.heap.size 35 (.slice none 0 0)
            have hlw : w4.heap.size + 1 + 1 ≤ wr.heap.size := hlwr
            have g8 : (w7.setCell ⟨wr.heap.size, 35, none⟩ (.slice none 0 0)).heap[wr.heap.size]? = some (.cells (inCells x (.slice none 0 0)).toArray 80) := by
              rw [blk_set g7]
              congr 2
              apply Array.ext'
              rw [Array.toList_setIfInBounds, List.toList_toArray, List.toList_toArray, inCells_set _ hidl]
            have h68 := (htx.block _ (by omega)).trans h67
            have hb68 := (htx.block _ (by omega)).trans hb67
            have hg68 := (htx.block _ (by omega)).trans hg67
            have hE8 : InOwn (w7.setCell ⟨wr.heap.size, 35, none⟩ (.slice none 0 0)) (w4.heap.size + 1 + 1) (.slice A N c) N ((t.ins.take k).map TIn.bare) := by
              refine RK.Own.keep_ hE7 htx.size (fun q hq => htx.block q (fun e => hnex (e ▸ hq.symm)))
            have hB8 := htx.below hB7 (by omega)
            have hs8 : w4.heap.size + 1 + 1 ≤ (w7.setCell ⟨wr.heap.size, 35, none⟩ (.slice none 0 0)).heap.size := by rw [htx.size]; exact hs7
            refine wp_gen (q := fun wi => wi.heap[wr.heap.size]? = some (.cells (inCells x (.slice none 0 0)).toArray 80) ∧ wi.heap[w4.heap.size]? = some (.cells (nums .u8 D0).toArray 25) ∧ wi.heap[w4.heap.size + 1]? = some (.cells (tCells t.ver (.slice A N c) (.slice A2 n2 c2) t.lock) 69) ∧ wi.heap[w.heap.size]? = some (.cells (tCells t.ver (.slice (some ⟨b, o, none⟩) n1 c1) (.slice A2 n2 c2) t.lock) 69) ∧ InOwn wi (w4.heap.size + 1 + 1) (.slice A N c) N ((t.ins.take k).map TIn.bare) ∧ Below w.heap.size w wi ∧ w4.heap.size + 1 + 1 ≤ wi.heap.size) ⟨g8, h68, hb68, hg68, hE8, hB8, hs8⟩ (fun w8 hw => ?_)
            clear g8 h68 hb68 hg68 hE8 hB8 hs8 htx c35 f35 h67 hb67 hg67 hE7 hB7 hs7 g7 hnex
            obtain ⟨g8, h68, hb68, hg68, hE8, hB8, hs8⟩ := hw
            have d8 := blk_cell hb68 (i := 1) (v := .slice A N c) rfl
            have hbo := bare_ok hox
            have hq1 : InOwn (w8.alloc (.cells (inCells x (.slice none 0 0)).toArray 80)) (w4.heap.size + 1 + 1) (.slice A N c) N ((t.ins.take k).map TIn.bare) := RK.Own.alloc hE8 _
            have hq2 : in0K.C (fun _ => True) (w8.alloc (.cells (inCells x (.slice none 0 0)).toArray 80)) (some ⟨w8.heap.size, 0, none⟩) 1 [x.bare] := in0K_one (heap_alloc_new w8 (.cells (inCells x.bare (.slice none 0 0)).toArray 80)) hbo rfl
            have hq3 : w4.heap.size + 1 + 1 ≤ (w8.alloc (.cells (inCells x (.slice none 0 0)).toArray 80)).heap.size := by simp; omega
            have hNl : N + 1 ≤ 1031 := by have := HNK.out; have := HI1.out; have := HBQ.out; omega
            have hq4 : (N + 1) * 88 ≤ 140737488355328 := by omega
            have hq5 : N + 1 ≤ maxLen := by unfold maxLen; omega
            have HQ6 : Hid ((t.ins.take k).map TIn.bare ++ [x.bare] = (t.ins.take (k + 1)).map TIn.bare) := Lib.hid (by rw [take_one t.ins k x HX.out, List.map_append]; rfl)
            have hzi := zinfo_in
            have hzc : (Value.agg (inCells in0 (.slice none 0 0)).toArray).cells.size = in0K.sz := rfl
            have hb68a := blk_alloc hb68 (.cells (inCells x (.slice none 0 0)).toArray 80)
            have HLO : Hid (∀ q, (Value.slice A N c).ownBlock = some q → w4.heap.size + 1 + 1 ≤ q ∧ q < w8.heap.size) := Lib.hid fun q hq => RK.Own.lt hE8 q hq
            clear hb68
            go_upto_region 13 with (first
              | ((with_reducible refine wpList_at 40 ?_); refine wpList_load_row rfl 80 (.tmp 8) rfl wr.heap.size rfl 80 _ _ _ g8 hU2 rfl (info_inA x hidl _) ?_)
              | ((with_reducible refine wpList_at 41 ?_); refine wpList_build1 rfl 66 80 _ rfl Tryd.underlying66 _ 36 88 zinfo_in (by decide) (by decide) (inCells x (.slice none 0 0)) (inCells_length hidl _) rfl rfl ?_)
              | ((with_reducible refine wpList_at 42 ?_); refine RK.wpList_appK in0K _ rfl (.tmp 39) (.tmp 41) 66 rfl (fun _ => False) (w4.heap.size + 1 + 1) 80 _ 88 Tryd.underlying66 hzi hzc (by decide) (.slice A N c) N ((t.ins.take k).map TIn.bare) rfl hq1 (fun _ h => h.elim) _ 1 1 [x.bare] rfl (fun _ => True) hq2 (fun _ _ h => h) (N + 1) _ rfl HQ6.out hq5 hq4 hq3 ?_
                 intro A9 c9 w9 hO9 hG9 hat9
                 have hb9 := heap_grown hG9 hb68a (fun e => by have := HLO.out _ e.symm; omega)
                 have d9 := blk_cell hb9 (i := 1) (v := .slice A N c) rfl
                 have f9 := blk_frozen hb9 1
                 have hs9 := Lib.hid hG9.size
                 have HG9 := Lib.hid hG9
                 clear hq1 hq2 hq3 hq4 hq5 hzi hzc hb68a d8 hG9 hat9 g8
                 refine wp_stopper ?_))
            refine Lib.hid ?_
            go_upto_region 13 with fail
            have hT9 := turned_setCell w9 (w4.heap.size + 1) 1 (.slice A9 (N + 1) c9)
            have hb10 := blk_set hb9 1 (.slice A9 (N + 1) c9)
            have hO10 : InOwn (w9.setCell ⟨w4.heap.size + 1, 1, none⟩ (.slice A9 (N + 1) c9)) (w4.heap.size + 1 + 1) (.slice A9 (N + 1) c9) (N + 1) ((t.ins.take (k + 1)).map TIn.bare) := RK.Own.grown_ hO9 hT9.grown (fun q e => by cases e; omega)
            have hWa : Below w8.heap.size w8 (w8.alloc (.cells (inCells x (.slice none 0 0)).toArray 80)) := (Below.refl _ _).alloc (Nat.le_refl _) _
            have hX : ∀ q, q < w4.heap.size + 1 → (w9.setCell ⟨w4.heap.size + 1, 1, none⟩ (.slice A9 (N + 1) c9)).heap[q]? = w8.heap[q]? := fun q hq => (hT9.block q (by omega)).trans ((HG9.out.block q (by simp; omega) (fun e => by have := HLO.out _ e.symm; omega)).trans (hWa.block q (by omega)))
            have h610 := (hX w4.heap.size (by omega)).trans h68
            have hg610 := (hX w.heap.size (by omega)).trans hg68
            have hB9 := (below_then hB8 hB8.size hWa).grown HG9.out (below_then hB8 hB8.size hWa).size (fun q e => by have := HLO.out q e; omega)
            have hB10 := hT9.below hB9 (by omega)
            have hs10 : w4.heap.size + 1 + 1 ≤ (w9.setCell ⟨w4.heap.size + 1, 1, none⟩ (.slice A9 (N + 1) c9)).heap.size := by have h1 := hs9.out; rw [hT9.size]; simp at h1; omega
            clear hT9 hWa hB9 hO9 hb9 d9 f9 hs9 HG9 hB8 hE8 hX h68 hg68
            go_wp2
            go_roundw
            case rel => exact ⟨k + 1, A9, N + 1, c9, by omega, by go_num, by rw [HNK.out], hO10, h610, hb10, hg610, hB10, hs10⟩
            case measure => simp [intOf]; omega
          · have hlt' : ¬ (k : Int) < (n1 : Int) := by omega
            have hNn : N = n1 := by have := HNK.out; omega
            have hfull : t.ins.take k = t.ins := List.take_of_length_le (by have := HI1.out; omega)
            rw [hfull] at hE
            subst hNn
            clear hfull hlt
            have hle := RK.Own.le_ hE
            have hKB : txK.K (fun b => b < w.heap.size ∨ (w4.heap.size + 1 + 1 ≤ b ∧ b < wr.heap.size)) wr (bareT t) [.int .i32 t.ver, .slice A N c, .slice A2 n2 c2, .int .u32 t.lock] :=
              ⟨A, N, c, A2, n2, c2, rfl, hvl.1, hvl.2, hle.1, hle.2, h3, hm4, (RK.C.lt_ inK_lt (InOwn.C hE (fun b => w4.heap.size + 1 + 1 ≤ b) (fun b h => h))).mono (fun b hb => .inr ⟨hb.1, hb.2⟩), (RK.C.below hO hB).mono (fun b hb => .inl hb)⟩
            have hS0 : in0K.C (fun _ => True) wr A N (t.ins.map TIn.bare) := RK.Own.C_ hE (fun _ h => h.elim) (fun _ _ => trivial)
            have hix := info_tx4 (.int .i32 t.ver) (.slice A N c) (.slice A2 n2 c2) (.int .u32 t.lock)
            have hEn := bare_enc HBD.out
            have HEN := Lib.hid hEn
            clear hE hEn hg6
            go_wp2_with (first | ((with_reducible refine wpList_at 46 ?_); refine wpList_load_row rfl 69 (.tmp 6) rfl (w4.heap.size + 1) rfl 69 _ _ _ hb6 hU rfl hix ?_))
            refine (enc_calls wr _ (bareT t) [.int .i32 t.ver, .slice A N c, .slice A2 n2 c2, .int .u32 t.lock] hKB).mono ?_
            rintro e w10 ⟨hE1, hE2, hb10⟩
            have h610 := heap_below hb10 h6
            have hb610 := heap_below hb10 hb6
            have hB10 := below_then hB hB.size hb10
            have hKB10 := RK.K_below hKB hb10
            have hS10 := RK.C.below hS0 hb10
            have hs10 := Nat.le_trans hs hb10.size
            clear h6 hb6 hB hKB hS0 hs hb10
            rcases HEN.out.2 with he | he
            · obtain ⟨A10, N10, c10, rfl, hO10⟩ := hE2 he
              have hpo := encF_pos (bareT t)
              obtain ⟨D10, rfl, hD10b, hD10l⟩ := own_some hO10 (by have := own_len hO10; omega)
              have hRb := Rd.of_own hO10
              have hleb := own_le hO10
              rw [HEN.out.1] at hRb
              clear hE1 hE2 he hO10
              go_upto_region 18 with (first | ((with_reducible refine wpList_at 54 ?_); refine wpList_load_row rfl 69 (.tmp 6) rfl (w4.heap.size + 1) rfl 69 _ _ _ hb610 hU rfl hix ?_))
              have hba : Below w10.heap.size w10 (w10.alloc (.cells (tCells t.ver (.slice A N c) (.slice A2 n2 c2) t.lock) 69)) := (Below.refl _ _).alloc (Nat.le_refl _) _
              refine wp_gen (q := fun wi => wi.heap[w10.heap.size]? = some (.cells (tCells t.ver (.slice A N c) (.slice A2 n2 c2) t.lock) 69) ∧ Below w10.heap.size w10 wi) ⟨heap_alloc_new _ _, hba⟩ (fun w11 hw => ?_)
              clear hba
              obtain ⟨ho11, hb11⟩ := hw
              have hgo : w10.heap.size < w11.heap.size := heap_lt ho11
              have h611 := heap_below hb11 h610
              have hb611 := heap_below hb11 hb610
              have hB11 := below_then hB10 hB10.size hb11
              have hKB11 := RK.K_below hKB10 hb11
              have hRb11 := hRb.below hb11
              have hS11 := RK.C.below hS10 hb11
              clear h610 hb610 hB10 hKB10 hRb hS10 hb11
              have e11 := blk_cell hb611 (i := 1) (v := .slice A N c) rfl
              have hq1 : in0K.Own (fun _ => False) (w11.alloc (.cells #[] 80)) w11.heap.size 80 (.slice (some ⟨w11.heap.size, 0, none⟩) 0 0) 0 [] := RK.Own.empty in0K _ 80 (Nat.le_refl _)
              have hba : Below w11.heap.size w11 (w11.alloc (.cells #[] 80)) := (Below.refl _ _).alloc (Nat.le_refl _) _
              have e11a := cell_below hba e11
              have hlt11 : w4.heap.size + 1 < w11.heap.size := by omega
              have hq2 := RK.C.below hS11 hba
              have hq3 : w11.heap.size ≤ (w11.alloc (.cells #[] 80)).heap.size := hba.size
              have hN1 : N ≤ 1030 := by have := HI1.out; have := HBQ.out; omega
              have hq5 : N ≤ maxLen := by unfold maxLen; omega
              have hzi := zinfo_in
              have hzc : (Value.agg (inCells in0 (.slice none 0 0)).toArray).cells.size = in0K.sz := rfl
              have ho11a := heap_below hba ho11
              clear hS11
              go_upto_region 19 with (first
                | ((with_reducible refine wpList_at 58 ?_); refine RK.wpList_appK in0K _ rfl (.tmp 55) (.tmp 57) 66 rfl (fun _ => False) w11.heap.size 80 _ 88 Tryd.underlying66 hzi hzc (by decide) (.slice (some ⟨w11.heap.size, 0, none⟩) 0 0) 0 [] rfl hq1 (fun _ h => h.elim) A N c (t.ins.map TIn.bare) rfl (fun _ => True) hq2 (fun _ _ h => h) N _ (Nat.zero_add _) (List.nil_append _) hq5 (by omega) hq3 ?_
                   intro A12 c12 w12 hO12 hG12 hat12
                   have ho12 := heap_grown hG12 ho11a (fun e => by have h : some w10.heap.size = some w11.heap.size := e; have := Option.some.inj h; omega)
                   have d12 := blk_cell ho12 (i := 1) (v := .slice A N c) rfl
                   have f12 := blk_frozen ho12 1
                   have HG12 := Lib.hid hG12
                   clear hq1 hq2 hq3 hq5 hzi hzc ho11a e11 e11a hG12 hat12
                   refine wp_stopper ?_))
              refine Lib.hid ?_
              go_upto_region 19 with fail
              have hT12 := turned_setCell w12 w10.heap.size 1 (.slice A12 N c12)
              have ho13 := blk_set ho12 1 (.slice A12 N c12)
              have hO13 : InOwn (w12.setCell ⟨w10.heap.size, 1, none⟩ (.slice A12 N c12)) w11.heap.size (.slice A12 N c12) N (t.ins.map TIn.bare) := RK.Own.grown_ hO12 hT12.grown (fun q e => by cases e; exact hgo)
              have hb12 : Below w11.heap.size w11 w12 := hba.grown HG12.out hba.size (fun q e => by cases e; exact Nat.le_refl _)
              have hX : ∀ q, q < w11.heap.size → q ≠ w10.heap.size → (w12.setCell ⟨w10.heap.size, 1, none⟩ (.slice A12 N c12)).heap[q]? = w11.heap[q]? := fun q hq hne => (hT12.block q hne).trans (hb12.block q hq)
              have hw10 : w4.heap.size + 1 + 1 ≤ w10.heap.size := hs10
              have h613 := (hX w4.heap.size (by omega) (by omega)).trans h611
              have hb613 := (hX (w4.heap.size + 1) (by omega) (by omega)).trans hb611
              have hB13 := hT12.below (below_then hB11 hB11.size hb12) (by omega)
              have hKB13 := txK.move (fun q hq hlt => hX q hlt (by rcases hq with hq | hq <;> omega)) hKB11
              have hRb13 : Rd (w12.setCell ⟨w10.heap.size, 1, none⟩ (.slice A12 N c12)) (some ⟨D10, 0, none⟩) N10 (nums .u8 (layF t false)) := by
                refine hRb11.keepD (D := D10) (fun ad h => ⟨0, (Option.some.inj h).symm⟩) (hX D10 (by omega) (by omega))
              have hN0 : 0 < N := hn1p
              obtain ⟨g9, rfl, hg9b, hg9l, _, hc12, hok9, hrow⟩ := InOwn.row hO13 hN0
              have hl9 : (t.ins.map TIn.bare).length = N := hO13.1
              have hrl : (List.replicate N (Value.slice none 0 0)).length = (t.ins.map TIn.bare).length := by rw [List.length_replicate, hl9]
              have hx9 : (t.ins.map TIn.bare)[0]? = some ((t.ins.map TIn.bare)[0]'(by omega)) := List.getElem?_eq_getElem (by omega)
              have hv9 : (List.replicate N (Value.slice none 0 0))[0]? = some (.slice none 0 0) := by rw [List.getElem?_replicate, if_pos hN0]
              have c35 := hrow.cell hrl (fun x hx => (hok9 x hx).idl) hx9 hv9
              rw [Nat.zero_mul, Nat.zero_add] at c35
              have f35 := hrow.frozen 35
              have hrow14 := hrow.set hrl (fun x hx => (hok9 x hx).idl) (i := 0) (by omega) (.slice Aw nw cw)
              rw [Nat.zero_mul, Nat.zero_add] at hrow14
              have d13 := blk_cell ho13 (i := 1) (v := .slice (some ⟨g9, 0, none⟩) N c12) rfl
              have hT14 := turned_setCell (w12.setCell ⟨w10.heap.size, 1, none⟩ (.slice (some ⟨g9, 0, none⟩) N c12)) g9 35 (.slice Aw nw cw)
              have hle12 := RK.Own.le_ hO13
              have hN0I : (0 : Int) < (N : Int) := by omega
              clear hO12 ho12 d12 f12 HG12 hT12 hO13 hb12 hX hba hRb11
              go_upto_region 20 with fail
              have h614 := (hT14.block w4.heap.size (by omega)).trans h613
              have hb614 := (hT14.block (w4.heap.size + 1) (by omega)).trans hb613
              have ho14 := (hT14.block w10.heap.size (by omega)).trans ho13
              have hB14 := hT14.below hB13 (by omega)
              have hKB14 := txK.move (fun q hq hlt => hT14.block q (by rcases hq with hq | hq <;> omega)) hKB13
              have hRb14 : Rd ((w12.setCell ⟨w10.heap.size, 1, none⟩ (.slice (some ⟨g9, 0, none⟩) N c12)).setCell ⟨g9, 35, none⟩ (.slice Aw nw cw)) (some ⟨D10, 0, none⟩) N10 (nums .u8 (layF t false)) :=
                hRb13.keepD (D := D10) (fun ad h => ⟨0, (Option.some.inj h).symm⟩) (hT14.block D10 (by omega))
              have hW14 := RK.C.below hW hB14
              have hKO14 : txK.K (fun _ => True) ((w12.setCell ⟨w10.heap.size, 1, none⟩ (.slice (some ⟨g9, 0, none⟩) N c12)).setCell ⟨g9, 35, none⟩ (.slice Aw nw cw)) (otherT t ws) [.int .i32 t.ver, .slice (some ⟨g9, 0, none⟩) N c12, .slice A2 n2 c2, .int .u32 t.lock] := by
                refine ⟨some ⟨g9, 0, none⟩, N, c12, A2, n2, c2, rfl, hvl.1, hvl.2, hle12.1, hle12.2, h3, hm4, ?_, (RK.C.below hO hB14).mono (fun _ _ => trivial)⟩
                have := other_C (S := fun _ => True) ws Aw nw cw hw1 hmw (hW14.mono (fun _ _ => trivial)) hok9 hrow14 (by rw [List.length_set]; exact hrl) trivial (bare_bare _)
                rw [otherI_length, hl9] at this
                exact this
              refine wp_gen (q := fun wi => wi.heap[w4.heap.size]? = some (.cells (nums .u8 D0).toArray 25) ∧ wi.heap[w4.heap.size + 1]? = some (.cells (tCells t.ver (.slice A N c) (.slice A2 n2 c2) t.lock) 69) ∧ wi.heap[w10.heap.size]? = some (.cells (tCells t.ver (.slice (some ⟨g9, 0, none⟩) N c12) (.slice A2 n2 c2) t.lock) 69) ∧ Below w.heap.size w wi ∧ Rd wi (some ⟨D10, 0, none⟩) N10 (nums .u8 (layF t false)) ∧ txK.K (fun b => b < w.heap.size ∨ (w4.heap.size + 1 + 1 ≤ b ∧ b < wr.heap.size)) wi (bareT t) [.int .i32 t.ver, .slice A N c, .slice A2 n2 c2, .int .u32 t.lock] ∧ txK.K (fun _ => True) wi (otherT t ws) [.int .i32 t.ver, .slice (some ⟨g9, 0, none⟩) N c12, .slice A2 n2 c2, .int .u32 t.lock]) ⟨h614, hb614, ho14, hB14, hRb14, hKB14, hKO14⟩ (fun wX hw => ?_)
              clear h614 hb614 ho14 hB14 hRb14 hKB14 hKO14 hW14 hT14 d13 hrow14 f35 c35 hv9 hx9 hrl hrow h613 hb613 ho13 hB13 hKB13 hRb13
              obtain ⟨hX1, hX2, hX3, hXB, hRb, hKB, hKO⟩ := hw
              have rh : wX.drew.rangeAt w4.heap.size 0 (nums .u8 D0) := range_block hX1
              have rB : wX.drew.rangeAt (w4.heap.size + 1) 0 [.int .i32 t.ver, .slice A N c, .slice A2 n2 c2, .int .u32 t.lock] := range_block (xs := [.int .i32 t.ver, .slice A N c, .slice A2 n2 c2, .int .u32 t.lock]) hX2
              have rO : wX.drew.rangeAt w10.heap.size 0 [.int .i32 t.ver, .slice (some ⟨g9, 0, none⟩) N c12, .slice A2 n2 c2, .int .u32 t.lock] := range_block (xs := [.int .i32 t.ver, .slice (some ⟨g9, 0, none⟩) N c12, .slice A2 n2 c2, .int .u32 t.lock]) hX3
              have hTX := hT.below hXB
              have hiH := ilen_h D0 hDl
              have hiB := txK_size hKB
              have hiO := txK_size hKO
              have heq := same_hash D0 hDl
              have hlB : (layF (bareT t) false).length ≤ 9000000000 := by rw [layF_bare]; exact HLL.out
              have hbyB : Bytes (layF (bareT t) false) := by rw [layF_bare]; exact HBY.out
              have hlO : (layF (otherT t ws) false).length ≤ 9000000000 := by rw [layF_other]; exact HLL.out
              have hbyO : Bytes (layF (otherT t ws) false) := by rw [layF_other]; exact HBY.out
              have hbyb := HBY.out
              have HDI : Hid (dblF (layF (bareT t) false) = D0) := Lib.hid (by rw [layF_bare]; exact HD0.out)
              have HDO : Hid (dblF (layF (otherT t ws) false) = D0) := Lib.hid (by rw [layF_other]; exact HD0.out)
              clear hX1 hX2 hX3
              refine wp_region_noPanic ?_
              refine wp_region_held_drew (S := fun w' => w'.rangeAt w4.heap.size 0 (nums .u8 D0) ∧ w'.rangeAt (w4.heap.size + 1) 0 [.int .i32 t.ver, .slice A N c, .slice A2 n2 c2, .int .u32 t.lock] ∧ w'.rangeAt w10.heap.size 0 [.int .i32 t.ver, .slice (some ⟨g9, 0, none⟩) N c12, .slice A2 n2 c2, .int .u32 t.lock] ∧ Below wX.heap.size wX w') (by kernel_rfl) ⟨rh, rB, rO, Below.drew (Below.refl _ _)⟩ (fun hHeld => ?_)
              -- 0: law.go:125 slot 65 := Op.load 25 t5
              refine wpAnyH_take (i := 0) (oi := ⟨some 65, _, _, _, _, _⟩) rfl (by kernel_rfl) (by kernel_rfl) (by kernel_rfl) (fun _ _ _ h => h) (yieldsIf_load_mid (by rfl) _ _ rfl _ _ rfl (nums .u8 D0) _ (fun _ h => h.1) hUH rfl hiH) (by assumption) ?_
              simp only [Act.put, List.setIfInBounds_toArray, List.set_cons_zero, List.set_cons_succ]
              -- 1: law.go:125 slot 66 := Op.move t9
              refine wpAnyH_take (i := 1) (oi := ⟨some 66, _, _, _, _, _⟩) (v := ?_) rfl (by kernel_rfl) (by kernel_rfl) (by kernel_rfl) (fun _ _ _ h => h) (Or.inl ⟨by rfl, ?_⟩) (by assumption) ?_
              rotate_left 1
              · intro w hSw; (try dsimp only at hSw); go_simp; try with_reducible rfl
              simp only [Act.put, List.setIfInBounds_toArray, List.set_cons_zero, List.set_cons_succ]
              -- 2: law.go:125 slot 67 := Op.call { value (Operand.func 25), args := #[t66], argTypes := #[22] }
              refine wpAnyH_ready (rs := [2]) (by kernel_rfl) (by simp) ?_
              refine AllReadyH.cons (o := ⟨some 67, _, _, _, _, _⟩) rfl (fun K hK => ?_) AllReadyH.nil
              go_simp
              refine (double_calls _ _ _ (layF t false) _ (Nat.le_trans hleb.1 hleb.2) hleb.1 hbyb (hRb.below hHeld.2.2.2) (hTX.below hHeld.2.2.2)).mono ?_
              rintro e w21 ⟨rfl, hbq⟩
              rw [HD0.out]
              refine hK.out _ _ ⟨range_below hbq hHeld.1, range_below hbq hHeld.2.1, range_below hbq hHeld.2.2.1, below_then hHeld.2.2.2 hHeld.2.2.2.size hbq⟩ (fun hHeld' => ?_)
              clear hHeld
              have hHeld := hHeld'
              clear hHeld'
              clear hK K
              try (simp only [Act.put, List.setIfInBounds_toArray, List.set_cons_zero, List.set_cons_succ])
              -- 3: law.go:125 slot 68 := Op.binOp BinOp.eql 25 t65 t67 25
              refine wpAnyH_take (i := 3) (oi := ⟨some 68, _, _, _, _, _⟩) (v := ?_) rfl (by kernel_rfl) (by kernel_rfl) (by kernel_rfl) (fun _ _ _ h => h) (Or.inl ⟨by rfl, ?_⟩) (by assumption) ?_
              rotate_left 1
              · intro w hSw; (try dsimp only at hSw); go_simp; try with_reducible rfl
              simp only [Act.put, List.setIfInBounds_toArray, List.set_cons_zero, List.set_cons_succ]
              -- 4: law.go:125 slot 69 := Op.move t68
              refine wpAnyH_take (i := 4) (oi := ⟨some 69, _, _, _, _, _⟩) (v := ?_) rfl (by kernel_rfl) (by kernel_rfl) (by kernel_rfl) (fun _ _ _ h => h) (Or.inl ⟨by rfl, ?_⟩) (by assumption) ?_
              rotate_left 1
              · intro w hSw; (try dsimp only at hSw); go_simp; try with_reducible rfl
              simp only [Act.put, List.setIfInBounds_toArray, List.set_cons_zero, List.set_cons_succ]
              -- 5: law.go:125 slot 70 := Op.load 69 t6 [guarded: some (4, true)]
              refine wpAnyH_take (i := 5) (oi := ⟨some 70, _, _, _, _, _⟩) rfl (by kernel_rfl) (by kernel_rfl) (by kernel_rfl) (fun _ _ _ h => h) (yieldsIf_load_mid (by rfl) _ _ rfl _ _ rfl ([.int .i32 t.ver, .slice A N c, .slice A2 n2 c2, .int .u32 t.lock]) _ (fun _ h => h.2.1) hU rfl hiB) (by assumption) ?_
              simp only [Act.put, List.setIfInBounds_toArray, List.set_cons_zero, List.set_cons_succ]
              -- 7: law.go:125 slot 72 := Op.load 25 t5 [guarded: some (4, true)]
              refine wpAnyH_take (i := 7) (oi := ⟨some 72, _, _, _, _, _⟩) rfl (by kernel_rfl) (by kernel_rfl) (by kernel_rfl) (fun _ _ _ h => h) (yieldsIf_load_mid (by rfl) _ _ rfl _ _ rfl (nums .u8 D0) _ (fun _ h => h.1) hUH rfl hiH) (by assumption) ?_
              simp only [Act.put, List.setIfInBounds_toArray, List.set_cons_zero, List.set_cons_succ]
              -- 6: law.go:125 slot 71 := Op.call { value (Operand.func 43), args := #[t70], argTypes := #[69] } [guarded: some (4, true)]
              refine wpAnyH_ready (rs := [6]) (by kernel_rfl) (by simp) ?_
              refine AllReadyH.cons (o := ⟨some 71, _, _, _, _, _⟩) rfl (fun K hK => ?_) AllReadyH.nil
              go_simp
              refine (txid_calls _ (hTX.below hHeld.2.2.2) _ (bareT t) [.int .i32 t.ver, .slice A N c, .slice A2 n2 c2, .int .u32 t.lock] (RK.K_below hKB hHeld.2.2.2) hlB hbyB).mono ?_
              rintro e w22 ⟨rfl, hbq⟩
              rw [HDI.out]
              refine hK.out _ _ ⟨range_below hbq hHeld.1, range_below hbq hHeld.2.1, range_below hbq hHeld.2.2.1, below_then hHeld.2.2.2 hHeld.2.2.2.size hbq⟩ (fun hHeld' => ?_)
              clear hHeld
              have hHeld := hHeld'
              clear hHeld'
              clear hK K
              try (simp only [Act.put, List.setIfInBounds_toArray, List.set_cons_zero, List.set_cons_succ])
              -- 8: law.go:125 slot 73 := Op.binOp BinOp.eql 25 t71 t72 25 [guarded: some (4, true)]
              refine wpAnyH_take (i := 8) (oi := ⟨some 73, _, _, _, _, _⟩) (v := ?_) rfl (by kernel_rfl) (by kernel_rfl) (by kernel_rfl) (fun _ _ _ h => h) (Or.inl ⟨by rfl, ?_⟩) (by assumption) ?_
              rotate_left 1
              · intro w hSw; (try dsimp only at hSw); go_simp; try with_reducible rfl
              simp only [Act.put, List.setIfInBounds_toArray, List.set_cons_zero, List.set_cons_succ]
              -- 9: law.go:125 slot 74 := Op.pick t69 t73 (const (Value.bool false))
              refine wpAnyH_take (i := 9) (oi := ⟨some 74, _, _, _, _, _⟩) (v := ?_) rfl (by kernel_rfl) (by kernel_rfl) (by kernel_rfl) (fun _ _ _ h => h) (Or.inl ⟨by rfl, ?_⟩) (by assumption) ?_
              rotate_left 1
              · intro w hSw; (try dsimp only at hSw); go_simp; try with_reducible rfl
              simp only [Act.put, List.setIfInBounds_toArray, List.set_cons_zero, List.set_cons_succ]
              -- 10: law.go:125 slot 75 := Op.move t74
              refine wpAnyH_take (i := 10) (oi := ⟨some 75, _, _, _, _, _⟩) (v := ?_) rfl (by kernel_rfl) (by kernel_rfl) (by kernel_rfl) (fun _ _ _ h => h) (Or.inl ⟨by rfl, ?_⟩) (by assumption) ?_
              rotate_left 1
              · intro w hSw; (try dsimp only at hSw); go_simp; try with_reducible rfl
              simp only [Act.put, List.setIfInBounds_toArray, List.set_cons_zero, List.set_cons_succ]
              -- 11: law.go:125 slot 76 := Op.load 69 t11 [guarded: some (10, true)]
              refine wpAnyH_take (i := 11) (oi := ⟨some 76, _, _, _, _, _⟩) rfl (by kernel_rfl) (by kernel_rfl) (by kernel_rfl) (fun _ _ _ h => h) (yieldsIf_load_mid (by rfl) _ _ rfl _ _ rfl ([.int .i32 t.ver, .slice (some ⟨g9, 0, none⟩) N c12, .slice A2 n2 c2, .int .u32 t.lock]) _ (fun _ h => h.2.2.1) hU rfl hiO) (by assumption) ?_
              simp only [Act.put, List.setIfInBounds_toArray, List.set_cons_zero, List.set_cons_succ]
              -- 13: law.go:125 slot 78 := Op.load 25 t5 [guarded: some (10, true)]
              refine wpAnyH_take (i := 13) (oi := ⟨some 78, _, _, _, _, _⟩) rfl (by kernel_rfl) (by kernel_rfl) (by kernel_rfl) (fun _ _ _ h => h) (yieldsIf_load_mid (by rfl) _ _ rfl _ _ rfl (nums .u8 D0) _ (fun _ h => h.1) hUH rfl hiH) (by assumption) ?_
              simp only [Act.put, List.setIfInBounds_toArray, List.set_cons_zero, List.set_cons_succ]
              -- 12: law.go:125 slot 77 := Op.call { value (Operand.func 43), args := #[t76], argTypes := #[69] } [guarded: some (10, true)]
              refine wpAnyH_ready (rs := [12]) (by kernel_rfl) (by simp) ?_
              refine AllReadyH.cons (o := ⟨some 77, _, _, _, _, _⟩) rfl (fun K hK => ?_) AllReadyH.nil
              go_simp
              refine (txid_calls _ (hTX.below hHeld.2.2.2) _ (otherT t ws) [.int .i32 t.ver, .slice (some ⟨g9, 0, none⟩) N c12, .slice A2 n2 c2, .int .u32 t.lock] (RK.K_below hKO hHeld.2.2.2) hlO hbyO).mono ?_
              rintro e w23 ⟨rfl, hbq⟩
              rw [HDO.out]
              refine hK.out _ _ ⟨range_below hbq hHeld.1, range_below hbq hHeld.2.1, range_below hbq hHeld.2.2.1, below_then hHeld.2.2.2 hHeld.2.2.2.size hbq⟩ (fun hHeld' => ?_)
              clear hHeld
              have hHeld := hHeld'
              clear hHeld'
              clear hK K
              try (simp only [Act.put, List.setIfInBounds_toArray, List.set_cons_zero, List.set_cons_succ])
              -- 14: law.go:125 slot 79 := Op.binOp BinOp.eql 25 t77 t78 25 [guarded: some (10, true)]
              refine wpAnyH_take (i := 14) (oi := ⟨some 79, _, _, _, _, _⟩) (v := ?_) rfl (by kernel_rfl) (by kernel_rfl) (by kernel_rfl) (fun _ _ _ h => h) (Or.inl ⟨by rfl, ?_⟩) (by assumption) ?_
              rotate_left 1
              · intro w hSw; (try dsimp only at hSw); go_simp; try with_reducible rfl
              simp only [Act.put, List.setIfInBounds_toArray, List.set_cons_zero, List.set_cons_succ]
              -- 15: law.go:125 slot 80 := Op.pick t75 t79 (const (Value.bool false))
              refine wpAnyH_take (i := 15) (oi := ⟨some 80, _, _, _, _, _⟩) (v := ?_) rfl (by kernel_rfl) (by kernel_rfl) (by kernel_rfl) (fun _ _ _ h => h) (Or.inl ⟨by rfl, ?_⟩) (by assumption) ?_
              rotate_left 1
              · intro w hSw; (try dsimp only at hSw); go_simp; try with_reducible rfl
              simp only [Act.put, List.setIfInBounds_toArray, List.set_cons_zero, List.set_cons_succ]
              -- 16: law.go:125 slot 4 := Op.assign t80
              refine wpAnyH_take (i := 16) (oi := ⟨some 4, _, _, _, _, _⟩) (v := ?_) rfl (by kernel_rfl) (by kernel_rfl) (by kernel_rfl) (fun _ _ _ h => h) (Or.inl ⟨by rfl, ?_⟩) (by assumption) ?_
              rotate_left 1
              · intro w hSw; (try dsimp only at hSw); go_simp; try with_reducible rfl
              simp only [Act.put, List.setIfInBounds_toArray, List.set_cons_zero, List.set_cons_succ]
              refine wpAnyH_done (by kernel_rfl) ?_ _
              refine NoPanic.normal ?_
              have hBf := below_then hXB hXB.size hHeld.2.2.2
              clear hHeld
              go_wp2
              go_ret
              exact ⟨rfl, hBf⟩
            · obtain rfl := hE1 (by rw [he]; decide)
              rw [he]
              clear hE2
              go_wp2
              go_ret
              exact ⟨rfl, hB10⟩
      · have hck' : (checkF t != 0) = true := by rw [bne_iff_ne]; exact hck
        clear hck
        go_wp2
        go_ret
        exact ⟨rfl, hB3⟩
end Go.Proofs.YtjlkakggmfmfiaaDoor
