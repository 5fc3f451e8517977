/- TxLines: for every list of transactions the law's call returns true and changes nothing: one behind the other they are read as they were. -/
import Derived.Test.YtjlkakggmfmfiaaDoorTxLinesL
set_option maxRecDepth 100000
set_option linter.unusedVariables false
namespace Go.Proofs.YtjlkakggmfmfiaaDoor
open Go Go.RowKit
set_option maxHeartbeats 8000000 in
theorem txLines_walk (w : World) (hT : Tabs w) (A : Option Addr) (n c : Nat) (ts : List TTx) (hnc : n ≤ c) (hcm : c ≤ maxLen) (hC : txK.C (· < w.heap.size) w A n ts) :
    Calls Tryd.prog 13 #[.slice A n c] w fun e w' => e = .returned (.bool true) ∧ Below w.heap.size w w' := by
  have hU := Tryd.underlying69
  have hUL := Tryd.underlying62
  have hcm' := hcm
  unfold maxLen at hcm'
  have hnI : (n : Int) ≤ 9223372036854775807 := by omega
  go_enter Tryd.func13, Tryd.ntmps13
  go_wp2_with fail
  refine (head07_calls w).mono ?_
  rintro e w1 ⟨rfl, hB1⟩
  have hC1 := RK.C.below hC hB1
  have hs1 := hB1.size
  by_cases e1 : 5 < n
  · have e1' : (5 : Int) < (n : Int) := by omega
    go_wp2
    go_ret
    exact ⟨rfl, hB1⟩
  · have e1' : ¬ (5 : Int) < (n : Int) := by omega
    have ho3 : ((w1.alloc (.cells #[] 5)).alloc (.cells #[] 69)).ownsRow w.heap.size 5 1 (.slice (some ⟨w1.heap.size, 0, none⟩) 0 0) 0 (nums .u8 (linesF [])) := (own_empty (w := w1) 5 1 hs1).alloc _
    have ho4 : txK.Own (· < w.heap.size) ((w1.alloc (.cells #[] 5)).alloc (.cells #[] 69)) w.heap.size 69 (.slice (some ⟨w1.heap.size + 1, 0, none⟩) 0 0) 0 [] := by
      have := RK.Own.empty (w := w1.alloc (.cells #[] 5)) txK (· < w.heap.size) (base := w.heap.size) 69 (by simp; omega)
      simpa using this
    have hba : Below w.heap.size w ((w1.alloc (.cells #[] 5)).alloc (.cells #[] 69)) := (hB1.alloc hs1 _).alloc (by simp; omega) _
    go_upto_region 7 with fail
    refine wp_gen (q := fun wi => wi.ownsRow w.heap.size 5 1 (.slice (some ⟨w1.heap.size, 0, none⟩) 0 0) 0 (nums .u8 (linesF [])) ∧ txK.Own (· < w.heap.size) wi w.heap.size 69 (.slice (some ⟨w1.heap.size + 1, 0, none⟩) 0 0) 0 [] ∧ Below w.heap.size w wi) ⟨ho3, ho4, hba⟩ (fun w2 hw => ?_)
    clear ho3 ho4 hba hB1 hC1
    obtain ⟨ho3, ho4, hB2⟩ := hw
    go_wp2
    go_loopw [3, 4, 23] (fun v3 v4 v23 wr => ∃ (k N3 N4 : Nat) (A3 A4 : Option Addr) (c3 c4 : Nat) (us : List TTx), k ≤ n ∧ v23 = .int .i64 k ∧ v3 = .slice A3 N3 c3 ∧ v4 = .slice A4 N4 c4 ∧ N4 ≤ k ∧
      wr.ownsRow w.heap.size 5 1 (.slice A3 N3 c3) N3 (nums .u8 (linesF us)) ∧ txK.Own (· < w.heap.size) wr w.heap.size 69 (.slice A4 N4 c4) N4 us ∧ Hid (∀ t ∈ us, GoodT t) ∧ Below w.heap.size w wr) (fun _ _ v _ => n - (intOf v).toNat)
    case atStart => exact ⟨0, 0, 0, _, _, 0, 0, [], by omega, rfl, rfl, rfl, Nat.le_refl _, ho3, ho4, Lib.hid (fun t h => by simp at h), hB2⟩
    case round =>
      obtain ⟨k, N3, N4, A3, A4, c3, c4, us, hk, rfl, rfl, rfl, hN4, hO3, hO4, hG, hB⟩ := hrel
      have hs := hB.size
      have hlen : (linesF us).length = N3 := by have := (Rd.of_own hO3).1; rwa [nums_length] at this
      have hlu := hO4.len
      have hN3 : N3 ≤ N4 * 5000 := by have := linesF_le us hG.out; omega
      have hN3I : (N3 : Int) ≤ 9223372036854775807 := by omega
      have hN4I : (N4 : Int) ≤ 9223372036854775807 := by omega
      by_cases hlt : k < n
      · have hlt' : (k : Int) < (n : Int) := by omega
        have hkk : (0 : Int) ≤ (k : Int) := by omega
        obtain ⟨b, o, cs, x, hA, hx, hKx, hcx⟩ := (RK.C.below hC hB).get k hlt
        subst hA
        have hvl := txK_vl hKx
        have hok := txK_okT hKx
        obtain ⟨X1, xc1, X2, xc2, rfl, x1, x2, x3, x4, _, _⟩ := txK_form hKx
        unfold maxLen at x2 x4
        have hrx : wr.rangeAt b (o + k * 4) [.int .i32 x.ver, .slice X1 x.ins.length xc1, .slice X2 x.outs.length xc2, .int .u32 x.lock] := hcx
        have hi4 := info_tx4 (.int .i32 x.ver) (.slice X1 x.ins.length xc1) (.slice X2 x.outs.length xc2) (.int .u32 x.lock)
        have HOK := Lib.hid hok
        clear hx hcx hok
        go_upto_region 10 with (first
          | ((with_reducible refine wpList_at 26 ?_); refine wpList_load_mid rfl 69 (.tmp 25) rfl b (o + k * 4) rfl [.int .i32 x.ver, .slice X1 x.ins.length xc1, .slice X2 x.outs.length xc2, .int .u32 x.lock] _ hrx hU rfl hi4 ?_))
        refine wp_gen (q := fun wi => wi.heap[wr.heap.size]? = some (.cells ([.int .i32 x.ver, .slice X1 x.ins.length xc1, .slice X2 x.outs.length xc2, .int .u32 x.lock]).toArray 69) ∧ Below wr.heap.size wr wi) ⟨heap_alloc_new _ _, (Below.refl _ _).alloc (Nat.le_refl _) _⟩ (fun w3 hw => ?_)
        obtain ⟨g3, hb3⟩ := hw
        have hB3 := below_then hB hB.size hb3
        have hO3a := own_below hO3 hb3
        have hO4a := hO4.below hb3
        have hKx3 := RK.K_below hKx hb3
        have hlg : wr.heap.size < w3.heap.size := heap_lt g3
        clear hrx hO3 hO4 hKx
        go_wp2_with (first | ((with_reducible refine wpList_at 27 ?_); refine wpList_load_row rfl 69 (.tmp 6) rfl wr.heap.size rfl 69 _ _ _ g3 hU rfl hi4 ?_))
        refine (big_calls w3 _ x [.int .i32 x.ver, .slice X1 x.ins.length xc1, .slice X2 x.outs.length xc2, .int .u32 x.lock] hKx3).mono ?_
        rintro e w4 ⟨bb, rfl, hbn, hb4⟩
        have g4 := heap_below hb4 g3
        have hB4 := below_then hB3 hB3.size hb4
        have hO3b := own_below hO3a hb4
        have hO4b := hO4a.below hb4
        have hKx4 := RK.K_below hKx3 hb4
        have hl4 := hb4.size
        have hb34 := below_then hb3 hb3.size hb4
        clear g3 hO3a hO4a hKx3 hB3 hb3 hb4
        cases bb with
        | true =>
          clear hbn
          go_wp2
          go_ret
          exact ⟨rfl, hB4⟩
        | false =>
          have HBN := Lib.hid (hbn rfl)
          clear hbn
          go_wp2_with (first | ((with_reducible refine wpList_at 30 ?_); refine wpList_load_row rfl 69 (.tmp 6) rfl wr.heap.size rfl 69 _ _ _ g4 hU rfl hi4 ?_))
          refine (enc_calls w4 _ x [.int .i32 x.ver, .slice X1 x.ins.length xc1, .slice X2 x.outs.length xc2, .int .u32 x.lock] hKx4).mono ?_
          rintro e w5 ⟨he1, he0, hb5⟩
          have g5 := heap_below hb5 g4
          have hB5 := below_then hB4 hB4.size hb5
          have hO3c := own_below hO3b hb5
          have hO4c := hO4b.below hb5
          have hKx5 := RK.K_below hKx4 hb5
          have hb35 := below_then hb34 hb34.size hb5
          clear g4 hO3b hO4b hKx4 hB4 hb34
          by_cases hE : encErr x = 0
          · obtain ⟨A5, N, c5, rfl, hO5⟩ := he0 hE
            have hmax := (encErr_zero hE).2
            have hR5 := Rd.of_own hO5
            have HN : Hid ((encF x).length = N) := Lib.hid (by have := hR5.1; rwa [nums_length] at this)
            have hNm : N ≤ 65536 := by have := HN.out; omega
            have hEq : (encErr x == 0) = true := beq_iff_eq.2 hE
            have HE := Lib.hid hE
            clear he1 he0 hE hO5 hmax
            by_cases hsh : N < 5000
            · have hsh' : decide ((N : Int) < 5000) = true := decide_eq_true (by omega)
              have HG2 : Hid (∀ t ∈ us ++ [x], GoodT t) := Lib.hid (fun t h => by
                rcases List.mem_append.1 h with h | h
                · exact hG.out t h
                · obtain rfl := List.mem_singleton.1 h
                  exact ⟨HOK.out, HE.out, by rw [HN.out]; exact hsh, HBN.out.1, HBN.out.2⟩)
              have HLN : Hid (nums .u8 (linesF us) ++ nums .u8 (encF x) = nums .u8 (linesF (us ++ [x]))) := Lib.hid (by rw [linesF_add, nums_append])
              have hms := hB5.size
              go_upto_region 15 with (first
                | ((with_reducible refine wpList_at 43 ?_); refine wpList_appN rfl (.tmp 41) (.tmp 42) 22 rfl w.heap.size 5 _ 1 Tryd.underlying22 infoU8 rfl (.slice A3 N3 c3) N3 (nums .u8 (linesF us)) rfl hO3c A5 N c5 (nums .u8 (encF x)) rfl hR5 (nums_one _ _) (N3 + N) (nums .u8 (linesF (us ++ [x]))) rfl HLN.out (by unfold maxLen; omega) (by omega) hms ?_
                   intro A6 c6 w6 hO6 hG6 hx6))
              have hne := hO4c.ne hO3c (by decide)
              have hlt3 := hO3c.lt
              have hO4d := hO4c.kept hG6 hne.1 (fun q hq e => by have := hlt3 q e.symm; omega)
              have g6 : w6.heap[wr.heap.size]? = _ := heap_grown hG6 g5 (own_blk_ne hO3c g5 (by decide))
              have hB6 : Below w.heap.size w w6 := hB5.grown hG6 hms (fun q e => own_base hO3c q e)
              have hKx6 : txK.K (· < w.heap.size) w6 x [.int .i32 x.ver, .slice X1 x.ins.length xc1, .slice X2 x.outs.length xc2, .int .u32 x.lock] := txK.move (fun q hq hl => hG6.block q hl (fun e => by have := hlt3 q e.symm; omega)) hKx5
              have hms6 := hB6.size
              have hq1 := hO4d.alloc (.cells ([.int .i32 x.ver, .slice X1 x.ins.length xc1, .slice X2 x.outs.length xc2, .int .u32 x.lock]).toArray 69)
              have hq2 : txK.Src (· < w.heap.size) (w6.alloc (.cells ([.int .i32 x.ver, .slice X1 x.ins.length xc1, .slice X2 x.outs.length xc2, .int .u32 x.lock]).toArray 69)) (some ⟨w6.heap.size, 0, none⟩) 1 [x] := RK.Src.one (heap_alloc_new _ _) (RK.K_below hKx6 ((Below.refl _ _).alloc (Nat.le_refl _) _))
              have hSS : ∀ q, q < w.heap.size → some q ≠ (Value.slice A4 N4 c4).ownBlock := fun q hq e => by have := hq1.lt q e.symm; omega
              have hO6a := hO6.alloc (.cells ([.int .i32 x.ver, .slice X1 x.ins.length xc1, .slice X2 x.outs.length xc2, .int .u32 x.lock]).toArray 69)
              have hB6a := hB6.alloc hms6 (.cells ([.int .i32 x.ver, .slice X1 x.ins.length xc1, .slice X2 x.outs.length xc2, .int .u32 x.lock]).toArray 69)
              have hms7 : w.heap.size ≤ (w6.alloc (.cells ([.int .i32 x.ver, .slice X1 x.ins.length xc1, .slice X2 x.outs.length xc2, .int .u32 x.lock]).toArray 69)).heap.size := hB6a.size
              have hzi := zinfo_tx
              go_upto_region 16 with (first
                | ((with_reducible refine wpList_at 45 ?_); refine wpList_load_row rfl 69 (.tmp 6) rfl wr.heap.size rfl 69 _ _ _ g6 hU rfl hi4 ?_)
                | ((with_reducible refine wpList_at 46 ?_); refine wpList_build1 rfl 62 69 _ rfl hUL _ 4 64 zinfo_tx (by decide) (by decide) [.int .i32 x.ver, .slice X1 x.ins.length xc1, .slice X2 x.outs.length xc2, .int .u32 x.lock] rfl rfl rfl ?_)
                | ((with_reducible refine wpList_at 47 ?_); refine RK.wpList_appK' txK _ rfl (.tmp 44) (.tmp 46) 62 rfl (· < w.heap.size) w.heap.size 69 _ 64 hUL zinfo_tx rfl (by decide) (.slice A4 N4 c4) N4 us rfl hq1 hSS _ 1 1 [x] rfl hq2 (N4 + 1) (us ++ [x]) rfl rfl (by unfold maxLen; omega) (by omega) hms7 ?_
                   intro A7 c7 w7 hO7 hG7 hx7))
              have hne7 := hq1.ne hO6a (by decide)
              have hO3e := hO6a.kept hG7 hne7.2
              have hB7 : Below w.heap.size w w7 := hB6a.grown hG7 hms7 (fun q e => (hq1.lt q e).1)
              clear hq1 hq2 hO6 hO6a hO4d hO3c hO4c hG6 hG7 hR5 hKx5 hKx6 g5 g6 hb5 hB5 hB6 hB6a hb35 hlt3 hSS hx6 hx7 hne hne7
              go_wp2
              go_roundw
              case rel => exact ⟨k + 1, N3 + N, N4 + 1, A6, A7, c6, c7, us ++ [x], by omega, by go_num, rfl, rfl, by omega, hO3e, hO7, HG2, hB7⟩
              case measure => simp [intOf]; omega
            · have hsh' : decide ((N : Int) < 5000) = false := decide_eq_false (by omega)
              go_wp2
              go_roundw
              case rel => exact ⟨k + 1, N3, N4, A3, A4, c3, c4, us, by omega, by go_num, rfl, rfl, by omega, hO3c, hO4c, hG, hB5⟩
              case measure => simp [intOf]; omega
          · obtain rfl := he1 hE
            have hEq : (encErr x == 0) = false := beq_eq_false_iff_ne.2 hE
            clear he1 he0
            go_wp2
            go_roundw
            case rel => exact ⟨k + 1, N3, N4, A3, A4, c3, c4, us, by omega, by go_num, rfl, rfl, by omega, hO3c, hO4c, hG, hB5⟩
            case measure => simp [intOf]; omega
      · have hlt' : ¬ (k : Int) < (n : Int) := by omega
        have hR3 := Rd.of_own hO3
        have hle3 := own_le hO3
        have hC4 : txK.C (fun _ => True) wr A4 N4 us := hO4.C_ (fun _ _ => trivial) (fun _ _ => trivial)
        refine wp_gen (q := fun wi => txK.C (fun _ => True) wi A4 N4 us ∧ Rd wi A3 N3 (nums .u8 (linesF us)) ∧ Below w.heap.size w wi) ⟨hC4, hR3, hB⟩ (fun wp hw => ?_)
        clear hO3 hO4 hC hC4 hR3 hB
        obtain ⟨hC4, hR3, hB⟩ := hw
        go_wp2
        go_loopw [3, 51] (fun v3 v51 wq => ∃ (j m d : Nat) (D : Option Addr), j ≤ N4 ∧ v51 = .int .i64 j ∧ v3 = .slice D m d ∧ m ≤ d ∧ d ≤ maxLen ∧ Rd wq D m (nums .u8 (linesF (us.drop j))) ∧ Below wp.heap.size wp wq) (fun _ v _ => N4 - (intOf v).toNat)
        case atStart => exact ⟨0, N3, c3, A3, by omega, rfl, rfl, hle3.1, hle3.2, hR3, Below.refl _ _⟩
        case round =>
          obtain ⟨j, m, d, D, hj, rfl, rfl, hm1, hm2, hRq, hBq⟩ := hrel
          have hbq := below_then hB hB.size hBq
          by_cases hjl : j < N4
          · have hjl' : (j : Int) < (N4 : Int) := by omega
            have hjj : (0 : Int) ≤ (j : Int) := by omega
            obtain ⟨b, o, cs, x, hA, hx, hKx, hcx⟩ := (RK.C.below hC4 hBq).get j hjl
            subst hA
            have HGX := Lib.hid (hG.out x (List.mem_of_getElem? hx))
            have HLD := Lib.hid (linesF_drop hx)
            have hvl := txK_vl hKx
            obtain ⟨X1, xc1, X2, xc2, rfl, x1, x2, x3, x4, _, _⟩ := txK_form hKx
            unfold maxLen at x2 x4
            have hKX := hKx
            have hrx : wr.rangeAt b (o + j * 4) [.int .i32 x.ver, .slice X1 x.ins.length xc1, .slice X2 x.outs.length xc2, .int .u32 x.lock] := hcx
            have hi4 := info_tx4 (.int .i32 x.ver) (.slice X1 x.ins.length xc1) (.slice X2 x.outs.length xc2) (.int .u32 x.lock)
            rw [HLD.out] at hRq
            obtain ⟨N, hN⟩ : ∃ N, (encF x).length = N := ⟨_, rfl⟩
            have hpos := encF_pos x
            have hml : m = N + (linesF (us.drop (j + 1))).length := by have := hRq.1; rw [nums_length, List.length_append, hN] at this; omega
            have hmp : 0 < m := by omega
            obtain ⟨Dg, od, hDe, hDc⟩ := hRq.at_ 0 hmp
            have hDl := cell_lt hDc
            subst hDe
            have hNlt : N < 5000 := by have := HGX.out.len; omega
            have hNm : N ≤ m := by omega
            have hby : Bytes (encF x ++ linesF (us.drop (j + 1))) := (layF_bytes HGX.out.ok _).append (linesF_bytes _ (fun t ht => hG.out t (List.mem_of_mem_drop ht)))
            have hd := Lib.hid (dec_enc HGX.out.ok (encErr_zero HGX.out.err).1 (encErr_zero HGX.out.err).2 (linesF (us.drop (j + 1))))
            have HN := Lib.hid hN
            have HBY := Lib.hid hby
            clear hx hcx hN hpos hDc hby hml
            go_upto_region 20 with (first
              | ((with_reducible refine wpList_at 54 ?_); refine wpList_load_mid rfl 69 (.tmp 53) rfl b (o + j * 4) rfl [.int .i32 x.ver, .slice X1 x.ins.length xc1, .slice X2 x.outs.length xc2, .int .u32 x.lock] _ hrx hU rfl hi4 ?_))
            refine wp_gen (q := fun wi => wi.heap[wr.heap.size]? = some (.cells ([.int .i32 x.ver, .slice X1 x.ins.length xc1, .slice X2 x.outs.length xc2, .int .u32 x.lock]).toArray 69) ∧ Below wr.heap.size wr wi) ⟨heap_alloc_new _ _, (Below.refl _ _).alloc (Nat.le_refl _) _⟩ (fun w3 hw => ?_)
            obtain ⟨g3, hb3⟩ := hw
            have hRq3 := hRq.below hb3
            have hDl3 : Dg < w3.heap.size := Nat.lt_of_lt_of_le hDl hb3.size
            have hB3 := below_then hbq hbq.size hb3
            have hq3 := below_then hBq hBq.size hb3
            have hKx3 := RK.K_below hKx hb3
            clear hrx hKx hKX hRq hb3
            go_wp2_with fail
            refine (dec_calls w3 Dg od m d (encF x ++ linesF (us.drop (j + 1))) hm1 hm2 hRq3 hDl3 HBY.out).mono ?_
            rintro e w9 ⟨cs9, rfl, hK9, _, hb9⟩
            have hK9 := hK9 hd.out.1
            rw [hd.out.2.2.1] at hK9
            rw [hd.out.1, hd.out.2.1, HN.out, if_pos rfl]
            have g9 := heap_below hb9 g3
            have hlg : wr.heap.size < w9.heap.size := heap_lt g9
            have hB9 := below_then hB3 hB3.size hb9
            have hq9 := below_then hq3 hq3.size hb9
            have hRq9 := hRq3.below hb9
            have hKx9 := RK.K_below hKx3 hb9
            obtain ⟨Y1, yc1, Y2, yc2, hcs9, _⟩ := txK_form hK9
            subst hcs9
            have hi9 := info_tx4 (.int .i32 x.ver) (.slice Y1 x.ins.length yc1) (.slice Y2 x.outs.length yc2) (.int .u32 x.lock)
            clear g3 hRq3 hB3 hq3 hKx3 hb9
            go_upto_region 21 with fail
            have hba : Below w9.heap.size w9 (w9.alloc (.cells ([.int .i32 x.ver, .slice Y1 x.ins.length yc1, .slice Y2 x.outs.length yc2, .int .u32 x.lock]).toArray 69)) := (Below.refl _ _).alloc (Nat.le_refl _) _
            refine wp_gen (q := fun wi => wi.heap[w9.heap.size]? = some (.cells ([.int .i32 x.ver, .slice Y1 x.ins.length yc1, .slice Y2 x.outs.length yc2, .int .u32 x.lock]).toArray 69) ∧ Below w9.heap.size w9 wi) ⟨heap_alloc_new _ _, hba⟩ (fun w10 hw => ?_)
            clear hba
            obtain ⟨g10, hb10⟩ := hw
            have hX10 := heap_below hb10 g9
            have hK10 := RK.K_below hK9 hb10
            have hKx10 := RK.K_below hKx9 hb10
            have hB10 := below_then hB9 hB9.size hb10
            have hq10 := below_then hq9 hq9.size hb10
            have hRq10 := hRq9.below hb10
            have hT10 := hT.below hB10
            have r9 : w10.drew.rangeAt w9.heap.size 0 [.int .i32 x.ver, .slice Y1 x.ins.length yc1, .slice Y2 x.outs.length yc2, .int .u32 x.lock] := range_block (xs := [.int .i32 x.ver, .slice Y1 x.ins.length yc1, .slice Y2 x.outs.length yc2, .int .u32 x.lock]) g10
            have r0 : w10.drew.rangeAt wr.heap.size 0 [.int .i32 x.ver, .slice X1 x.ins.length xc1, .slice X2 x.outs.length xc2, .int .u32 x.lock] := range_block (xs := [.int .i32 x.ver, .slice X1 x.ins.length xc1, .slice X2 x.outs.length xc2, .int .u32 x.lock]) hX10
            have hln := layF_le x (fun y hy => (HGX.out.ok.ins y hy).idl) (encErr_zero HGX.out.err).1 false
            have hlb := layF_bytes HGX.out.ok false
            obtain ⟨D0, hD0⟩ : ∃ D0, dblF (layF x false) = D0 := ⟨_, rfl⟩
            have hDl0 : D0.length = 32 := by rw [← hD0]; exact dblF_length _
            have HD0 := Lib.hid hD0
            have hEH := fun W => run_equalIn_nums (P := Tryd.prog) W 9998 25 5 32 .u8 .u8 Tryd.underlying25 Tryd.underlying5 info_u8 D0 D0 hDl0 hDl0
            simp only [beq_self_eq_true] at hEH
            have hmi1 : x.ins.length ≤ 100000 := by have := HGX.out.ins; omega
            have hmi2 : x.outs.length ≤ 100000 := by have := HGX.out.outs; omega
            clear g10 hX10 hK9 hKx9 hB9 hq9 hRq9 hb10 hD0 g9
            refine wp_region_noPanic ?_
            refine wp_region_held_drew (S := fun w' => w'.rangeAt w9.heap.size 0 [.int .i32 x.ver, .slice Y1 x.ins.length yc1, .slice Y2 x.outs.length yc2, .int .u32 x.lock] ∧ w'.rangeAt wr.heap.size 0 [.int .i32 x.ver, .slice X1 x.ins.length xc1, .slice X2 x.outs.length xc2, .int .u32 x.lock] ∧ Below w10.heap.size w10 w') (by kernel_rfl) ⟨r9, r0, Below.drew (Below.refl _ _)⟩ (fun hHeld => ?_)
            -- 0: law.go:233 slot 61 := Op.move t13
            refine wpAnyH_take (i := 0) (oi := ⟨some 61, _, _, _, _, _⟩) (v := ?_) rfl (by kernel_rfl) (by kernel_rfl) (by kernel_rfl) (fun _ _ _ h => h) (Or.inl ⟨by rfl, ?_⟩) (by assumption) ?_
            rotate_left 1
            · intro w hSw; (try dsimp only at hSw); go_simp; try with_reducible rfl
            simp only [Act.put, List.setIfInBounds_toArray, List.set_cons_zero, List.set_cons_succ]
            -- 1: law.go:233 slot 62 := Op.binOp BinOp.neq 47 t61 (const (0:i64)) 47
            refine wpAnyH_take (i := 1) (oi := ⟨some 62, _, _, _, _, _⟩) (v := ?_) rfl (by kernel_rfl) (by kernel_rfl) (by kernel_rfl) (fun _ _ _ h => h) (Or.inl ⟨by rfl, ?_⟩) (by assumption) ?_
            rotate_left 1
            · intro w hSw; (try dsimp only at hSw); go_simp; try with_reducible rfl
            simp only [Act.put, List.setIfInBounds_toArray, List.set_cons_zero, List.set_cons_succ]
            -- 2: law.go:233 slot 63 := Op.move t62
            refine wpAnyH_take (i := 2) (oi := ⟨some 63, _, _, _, _, _⟩) (v := ?_) rfl (by kernel_rfl) (by kernel_rfl) (by kernel_rfl) (fun _ _ _ h => h) (Or.inl ⟨by rfl, ?_⟩) (by assumption) ?_
            rotate_left 1
            · intro w hSw; (try dsimp only at hSw); go_simp; try with_reducible rfl
            simp only [Act.put, List.setIfInBounds_toArray, List.set_cons_zero, List.set_cons_succ]
            -- 3: law.go:233 slot 64 := Op.load 69 t11 [guarded: some (2, false)]
            refine wpAnyH_take (i := 3) (oi := ⟨some 64, _, _, _, _, _⟩) rfl (by kernel_rfl) (by kernel_rfl) (by kernel_rfl) (fun _ _ _ h => h) (yieldsIf_load_mid (by rfl) _ _ rfl _ _ rfl ([.int .i32 x.ver, .slice Y1 x.ins.length yc1, .slice Y2 x.outs.length yc2, .int .u32 x.lock]) _ (fun _ h => h.1) hU rfl hi9) (by assumption) ?_
            simp only [Act.put, List.setIfInBounds_toArray, List.set_cons_zero, List.set_cons_succ]
            -- 5: law.go:233 slot 66 := Op.load 69 t10 [guarded: some (2, false)]
            refine wpAnyH_take (i := 5) (oi := ⟨some 66, _, _, _, _, _⟩) rfl (by kernel_rfl) (by kernel_rfl) (by kernel_rfl) (fun _ _ _ h => h) (yieldsIf_load_mid (by rfl) _ _ rfl _ _ rfl ([.int .i32 x.ver, .slice X1 x.ins.length xc1, .slice X2 x.outs.length xc2, .int .u32 x.lock]) _ (fun _ h => h.2.1) hU rfl hi4) (by assumption) ?_
            simp only [Act.put, List.setIfInBounds_toArray, List.set_cons_zero, List.set_cons_succ]
            -- 4: law.go:233 slot 65 := Op.call { value (Operand.func 51), args := #[t64], argTypes := #[69] } [guarded: some (2, false)]
            refine wpAnyH_ready (rs := [4]) (by kernel_rfl) (by simp) ?_
            refine AllReadyH.cons (o := ⟨some 65, _, _, _, _, _⟩) rfl (fun K hK => ?_) AllReadyH.nil
            go_simp
            refine (plain_calls _ _ x [.int .i32 x.ver, .slice Y1 x.ins.length yc1, .slice Y2 x.outs.length yc2, .int .u32 x.lock] (RK.K_below hK10 hHeld.2.2) hmi1 hmi2).mono ?_
            rintro e w11 ⟨csx, rfl, hKp, hbz⟩
            refine hK.out _ _ ⟨range_below hbz hHeld.1, range_below hbz hHeld.2.1, below_then hHeld.2.2 hHeld.2.2.size hbz⟩ (fun hHeld' => ?_)
            clear hHeld
            have hHeld := hHeld'
            clear hHeld'
            clear hK K
            try (simp only [Act.put, List.setIfInBounds_toArray, List.set_cons_zero, List.set_cons_succ])
            -- 6: law.go:233 slot 67 := Op.call { value (Operand.func 51), args := #[t66], argTypes := #[69] } [guarded: some (2, false)]
            refine wpAnyH_ready (rs := [6]) (by kernel_rfl) (by simp) ?_
            refine AllReadyH.cons (o := ⟨some 67, _, _, _, _, _⟩) rfl (fun K hK => ?_) AllReadyH.nil
            go_simp
            refine (plain_calls _ _ x [.int .i32 x.ver, .slice X1 x.ins.length xc1, .slice X2 x.outs.length xc2, .int .u32 x.lock] (RK.K_below hKx10 hHeld.2.2) hmi1 hmi2).mono ?_
            rintro e w12 ⟨csy, rfl, hKy, hbz⟩
            have hKp' := RK.K_below hKp hbz
            refine hK.out _ _ ⟨range_below hbz hHeld.1, range_below hbz hHeld.2.1, below_then hHeld.2.2 hHeld.2.2.size hbz⟩ (fun hHeld' => ?_)
            clear hHeld
            have hHeld := hHeld'
            clear hHeld'
            clear hK K
            try (simp only [Act.put, List.setIfInBounds_toArray, List.set_cons_zero, List.set_cons_succ])
            -- 7: law.go:233 slot 68 := Op.call { value (Operand.func 50), args := #[t65, t67], argTypes := #[92, 92] } [guarded: some (2, false)]
            refine wpAnyH_ready (rs := [7]) (by kernel_rfl) (by simp) ?_
            refine AllReadyH.cons (o := ⟨some 68, _, _, _, _, _⟩) rfl (fun K hK => ?_) AllReadyH.nil
            go_simp
            refine (same_calls _ _ _ x csx csy hKp' hKy).mono ?_
            rintro e w13 ⟨rfl, hbz⟩
            refine hK.out _ _ ⟨range_below hbz hHeld.1, range_below hbz hHeld.2.1, below_then hHeld.2.2 hHeld.2.2.size hbz⟩ (fun hHeld' => ?_)
            clear hHeld
            have hHeld := hHeld'
            clear hHeld'
            clear hK K
            try (simp only [Act.put, List.setIfInBounds_toArray, List.set_cons_zero, List.set_cons_succ])
            -- 8: law.go:233 slot 69 := Op.unOp UnOp.not 4 t68 [guarded: some (2, false)]
            refine wpAnyH_take (i := 8) (oi := ⟨some 69, _, _, _, _, _⟩) (v := ?_) rfl (by kernel_rfl) (by kernel_rfl) (by kernel_rfl) (fun _ _ _ h => h) (Or.inl ⟨by rfl, ?_⟩) (by assumption) ?_
            rotate_left 1
            · intro w hSw; (try dsimp only at hSw); go_simp; try with_reducible rfl
            simp only [Act.put, List.setIfInBounds_toArray, List.set_cons_zero, List.set_cons_succ]
            -- 9: law.go:233 slot 70 := Op.pick t63 (const (Value.bool true)) t69
            refine wpAnyH_take (i := 9) (oi := ⟨some 70, _, _, _, _, _⟩) (v := ?_) rfl (by kernel_rfl) (by kernel_rfl) (by kernel_rfl) (fun _ _ _ h => h) (Or.inl ⟨by rfl, ?_⟩) (by assumption) ?_
            rotate_left 1
            · intro w hSw; (try dsimp only at hSw); go_simp; try with_reducible rfl
            simp only [Act.put, List.setIfInBounds_toArray, List.set_cons_zero, List.set_cons_succ]
            -- 10: law.go:233 slot 71 := Op.move t70
            refine wpAnyH_take (i := 10) (oi := ⟨some 71, _, _, _, _, _⟩) (v := ?_) rfl (by kernel_rfl) (by kernel_rfl) (by kernel_rfl) (fun _ _ _ h => h) (Or.inl ⟨by rfl, ?_⟩) (by assumption) ?_
            rotate_left 1
            · intro w hSw; (try dsimp only at hSw); go_simp; try with_reducible rfl
            simp only [Act.put, List.setIfInBounds_toArray, List.set_cons_zero, List.set_cons_succ]
            -- 11: law.go:233 slot 72 := Op.load 69 t11 [guarded: some (10, false)]
            refine wpAnyH_take (i := 11) (oi := ⟨some 72, _, _, _, _, _⟩) rfl (by kernel_rfl) (by kernel_rfl) (by kernel_rfl) (fun _ _ _ h => h) (yieldsIf_load_mid (by rfl) _ _ rfl _ _ rfl ([.int .i32 x.ver, .slice Y1 x.ins.length yc1, .slice Y2 x.outs.length yc2, .int .u32 x.lock]) _ (fun _ h => h.1) hU rfl hi9) (by assumption) ?_
            simp only [Act.put, List.setIfInBounds_toArray, List.set_cons_zero, List.set_cons_succ]
            -- 13: law.go:233 slot 74 := Op.load 69 t10 [guarded: some (10, false)]
            refine wpAnyH_take (i := 13) (oi := ⟨some 74, _, _, _, _, _⟩) rfl (by kernel_rfl) (by kernel_rfl) (by kernel_rfl) (fun _ _ _ h => h) (yieldsIf_load_mid (by rfl) _ _ rfl _ _ rfl ([.int .i32 x.ver, .slice X1 x.ins.length xc1, .slice X2 x.outs.length xc2, .int .u32 x.lock]) _ (fun _ h => h.2.1) hU rfl hi4) (by assumption) ?_
            simp only [Act.put, List.setIfInBounds_toArray, List.set_cons_zero, List.set_cons_succ]
            -- 12: law.go:233 slot 73 := Op.call { value (Operand.func 43), args := #[t72], argTypes := #[69] } [guarded: some (10, false)]
            refine wpAnyH_ready (rs := [12]) (by kernel_rfl) (by simp) ?_
            refine AllReadyH.cons (o := ⟨some 73, _, _, _, _, _⟩) rfl (fun K hK => ?_) AllReadyH.nil
            go_simp
            refine (txid_calls _ (hT10.below hHeld.2.2) _ x [.int .i32 x.ver, .slice Y1 x.ins.length yc1, .slice Y2 x.outs.length yc2, .int .u32 x.lock] (RK.K_below hK10 hHeld.2.2) hln hlb).mono ?_
            rintro e w14 ⟨rfl, hbz⟩
            rw [HD0.out]
            refine hK.out _ _ ⟨range_below hbz hHeld.1, range_below hbz hHeld.2.1, below_then hHeld.2.2 hHeld.2.2.size hbz⟩ (fun hHeld' => ?_)
            clear hHeld
            have hHeld := hHeld'
            clear hHeld'
            clear hK K
            try (simp only [Act.put, List.setIfInBounds_toArray, List.set_cons_zero, List.set_cons_succ])
            -- 14: law.go:233 slot 75 := Op.call { value (Operand.func 43), args := #[t74], argTypes := #[69] } [guarded: some (10, false)]
            refine wpAnyH_ready (rs := [14]) (by kernel_rfl) (by simp) ?_
            refine AllReadyH.cons (o := ⟨some 75, _, _, _, _, _⟩) rfl (fun K hK => ?_) AllReadyH.nil
            go_simp
            refine (txid_calls _ (hT10.below hHeld.2.2) _ x [.int .i32 x.ver, .slice X1 x.ins.length xc1, .slice X2 x.outs.length xc2, .int .u32 x.lock] (RK.K_below hKx10 hHeld.2.2) hln hlb).mono ?_
            rintro e w15 ⟨rfl, hbz⟩
            rw [HD0.out]
            refine hK.out _ _ ⟨range_below hbz hHeld.1, range_below hbz hHeld.2.1, below_then hHeld.2.2 hHeld.2.2.size hbz⟩ (fun hHeld' => ?_)
            clear hHeld
            have hHeld := hHeld'
            clear hHeld'
            clear hK K
            try (simp only [Act.put, List.setIfInBounds_toArray, List.set_cons_zero, List.set_cons_succ])
            -- 15: law.go:233 slot 76 := Op.binOp BinOp.neq 25 t73 t75 25 [guarded: some (10, false)]
            refine wpAnyH_take (i := 15) (oi := ⟨some 76, _, _, _, _, _⟩) (v := ?_) rfl (by kernel_rfl) (by kernel_rfl) (by kernel_rfl) (fun _ _ _ h => h) (Or.inl ⟨by rfl, ?_⟩) (by assumption) ?_
            rotate_left 1
            · intro w hSw; (try dsimp only at hSw); go_simp; try with_reducible rfl
            simp only [Act.put, List.setIfInBounds_toArray, List.set_cons_zero, List.set_cons_succ]
            -- 16: law.go:233 slot 77 := Op.pick t71 (const (Value.bool true)) t76
            refine wpAnyH_take (i := 16) (oi := ⟨some 77, _, _, _, _, _⟩) (v := ?_) rfl (by kernel_rfl) (by kernel_rfl) (by kernel_rfl) (fun _ _ _ h => h) (Or.inl ⟨by rfl, ?_⟩) (by assumption) ?_
            rotate_left 1
            · intro w hSw; (try dsimp only at hSw); go_simp; try with_reducible rfl
            simp only [Act.put, List.setIfInBounds_toArray, List.set_cons_zero, List.set_cons_succ]
            refine wpAnyH_done (by kernel_rfl) ?_ _
            refine NoPanic.normal ?_
            have hqf := below_then hq10 hq10.size hHeld.2.2
            have hRf := hRq10.below hHeld.2.2
            have kt := fun W => cut_tail (some ⟨Dg, od, none⟩) m d N hNm W
            have hRn := rd_cutA hRf N hNm hm1
            have hnd : (nums .u8 (encF x ++ linesF (us.drop (j + 1)))).drop N = nums .u8 (linesF (us.drop (j + 1))) := by rw [nums_append, List.drop_left' (by rw [nums_length]; exact HN.out)]
            rw [hnd] at hRn
            clear hHeld hnd hRf hRq10 hK10 hKx10 r9 r0 hq10 hB10 hEH
            go_upto_region 24 with fail
            go_wp2
            go_roundw
            case rel => exact ⟨j + 1, m - N, d - N, _, by omega, by go_num, rfl, by omega, by omega, hRn, hqf⟩
            case measure => simp [intOf]; omega
          · have hjl' : ¬ (j : Int) < (N4 : Int) := by omega
            have hm0 : m = 0 := by
              have := hRq.1
              rw [nums_length, List.drop_eq_nil_of_le (by omega)] at this
              exact this.symm
            subst hm0
            go_wp2
            go_ret
            exact ⟨rfl, hbq⟩
end Go.Proofs.YtjlkakggmfmfiaaDoor
