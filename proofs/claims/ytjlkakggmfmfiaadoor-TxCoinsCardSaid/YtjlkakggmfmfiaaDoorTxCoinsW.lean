/- TxCoins: for every transaction, with the right table, the law's call returns true and changes nothing. -/
import Derived.Test.YtjlkakggmfmfiaaDoorTxCo
import Derived.Test.YtjlkakggmfmfiaaDoorHead07
set_option maxRecDepth 100000
set_option linter.unusedVariables false
namespace Go.Proofs.YtjlkakggmfmfiaaDoor
open Go Go.RowKit
theorem built_pt : Tryd.prog.built 77 [(1, .int .u32 4294967295)] = some (ptL zeros32 4294967295).toArray := by kernel_rfl
theorem built_hh : Tryd.prog.built 25 [] = some (nums .u8 zeros32).toArray := by kernel_rfl
theorem wpList_build_pt {ops : Array Oper} {rest : List Oper} {o : Oper} {a : Act} {w : World} {Q : Exit → Act → World → Prop} (hg : Region.wanted o (yielded ops a.tmps) = true) (parts : Array (Nat × Operand)) (ho : o.op = .build 77 parts)
    (hp0 : parts.toList.map (fun y => (y.1, a.eval y.2)) = [(1, .int .u32 4294967295)]) (Z : List Int) (HZ : Hid (zeros32 = Z))
    (h : wpList Tryd.prog ops Q rest (a.put o.dst (.agg (ptL Z 4294967295).toArray)) w) : wpList Tryd.prog ops Q (o :: rest) a w :=
  wpList_want hg fun _ hK => by
    have hk := hK _ _ h
    have hp : (parts.map fun (i, y) => (i, a.eval y)).toList = [(1, .int .u32 4294967295)] := by rw [Array.toList_map]; exact hp0
    refine wp_build 77 parts ho ?_ ?_
    · rw [hp, built_pt]; rfl
    · rw [hp, built_pt, HZ.out]; exact hk
theorem wpList_build_hh {ops : Array Oper} {rest : List Oper} {o : Oper} {a : Act} {w : World} {Q : Exit → Act → World → Prop} (hg : Region.wanted o (yielded ops a.tmps) = true) (parts : Array (Nat × Operand)) (ho : o.op = .build 25 parts)
    (hp0 : parts.toList.map (fun y => (y.1, a.eval y.2)) = []) (Z : List Int) (HZ : Hid (zeros32 = Z))
    (h : wpList Tryd.prog ops Q rest (a.put o.dst (.agg (nums .u8 Z).toArray)) w) : wpList Tryd.prog ops Q (o :: rest) a w :=
  wpList_want hg fun _ hK => by
    have hk := hK _ _ h
    have hp : (parts.map fun (i, y) => (i, a.eval y)).toList = [] := by rw [Array.toList_map]; exact hp0
    refine wp_build 25 parts ho ?_ ?_
    · rw [hp, built_hh]; rfl
    · rw [hp, built_hh, HZ.out]; exact hk
set_option maxHeartbeats 8000000 in
theorem txCoins_walk (w : World) (hN : Now w) (t : TTx) (cs : List Value) (hK : txK.K (· < w.heap.size) w t cs) :
    Calls Tryd.prog 11 #[.agg cs.toArray] w fun e w' => e = .returned (.bool true) ∧ Below w.heap.size w w' := by
  have hU := Tryd.underlying69
  have hUP := Tryd.underlying77
  have hUH := Tryd.underlying25
  have hU2 := Tryd.underlying80
  have hU3 := Tryd.underlying75
  obtain ⟨A1, c1, A2, c2, rfl, h1, h2, h3, h4, hI, hO⟩ := txK_form hK
  obtain ⟨n1, hi1⟩ : ∃ n1, t.ins.length = n1 := ⟨_, rfl⟩
  obtain ⟨n2, hi2⟩ : ∃ n2, t.outs.length = n2 := ⟨_, rfl⟩
  rw [hi1] at h1 hI hK ⊢
  rw [hi2] at h3 hO hK ⊢
  have HI1 := Lib.hid hi1
  have HI2 := Lib.hid hi2
  unfold maxLen at h2 h4
  have hn1I : (n1 : Int) ≤ 9223372036854775807 := by omega
  have hn2I : (n2 : Int) ≤ 9223372036854775807 := by omega
  have hb0 : Below w.heap.size w (w.alloc (.cells (tCells t.ver (.slice A1 n1 c1) (.slice A2 n2 c2) t.lock) 69)) := (Below.refl _ _).alloc (Nat.le_refl _) _
  have hg0 := heap_alloc_new w (.cells (tCells t.ver (.slice A1 n1 c1) (.slice A2 n2 c2) t.lock) 69)
  clear hi1 hi2
  go_enter Tryd.func11, Tryd.ntmps11
  go_upto_region 1 with fail
  refine wp_gen (q := fun wi => Below w.heap.size w wi ∧ wi.heap[w.heap.size]? = some (.cells (tCells t.ver (.slice A1 n1 c1) (.slice A2 n2 c2) t.lock) 69)) ⟨hb0, hg0⟩ (fun w0 hw => ?_)
  clear hb0 hg0
  obtain ⟨hb0, hg0⟩ := hw
  go_wp2_with fail
  refine (head07_calls w0).mono ?_
  rintro e w1 ⟨rfl, hb1⟩
  have hg1 := heap_below hb1 hg0
  have hB1 := below_then hb0 hb0.size hb1
  have hi4 := info_tx4 (.int .i32 t.ver) (.slice A1 n1 c1) (.slice A2 n2 c2) (.int .u32 t.lock)
  have t1 : w1.cell? ⟨w.heap.size, 1, none⟩ = some (.slice A1 n1 c1) := blk_cell hg1 rfl
  have t2 : w1.cell? ⟨w.heap.size, 2, none⟩ = some (.slice A2 n2 c2) := blk_cell hg1 rfl
  clear hg0 hb0 hb1
  by_cases e1 : 1200 < n2
  · have e1' : decide ((1200 : Int) < (n2 : Int)) = true := decide_eq_true (by omega)
    go_wp2
    go_ret
    exact ⟨rfl, hB1⟩
  · have e1' : decide ((1200 : Int) < (n2 : Int)) = false := decide_eq_false (by omega)
    by_cases e2 : 1200 < n1
    · have e2' : decide ((1200 : Int) < (n1 : Int)) = true := decide_eq_true (by omega)
      go_wp2
      go_ret
      exact ⟨rfl, hB1⟩
    · have e2' : decide ((1200 : Int) < (n1 : Int)) = false := decide_eq_false (by omega)
      have hO1 := RK.C.below hO hB1
      have hI1 := RK.C.below hI hB1
      have hK1 := RK.K_below hK hB1
      go_wp2
      go_loopw [3, 4, 25] (fun v3 v4 v25 wr => ∃ (k : Nat) (l : Int) (r : Bool), k ≤ n2 ∧ v25 = .int .i64 k ∧ v3 = .int .i64 l ∧ v4 = .bool r ∧ 0 ≤ l ∧ l ≤ topM ∧ Hid (cg t.outs 0 = if r then cg (t.outs.drop k) (topM - l) else none) ∧ Below w1.heap.size w1 wr) (fun _ _ v _ => n2 - (intOf v).toNat)
      case atStart => exact ⟨0, topM, true, by omega, rfl, rfl, rfl, by decide, Int.le_refl _, Lib.hid rfl, Below.refl _ _⟩
      case round =>
        obtain ⟨k, l, r, hk, rfl, rfl, rfl, hl0, hl1, hcg, hB⟩ := hrel
        have hbw := below_then hB1 hB1.size hB
        unfold topM at hl1
        by_cases hlt : k < n2
        · have hlt' : (k : Int) < (n2 : Int) := by omega
          have hkk : (0 : Int) ≤ (k : Int) := by omega
          obtain ⟨bo, oo, x, hAo, hxo, hc0, hc1, hoo⟩ := out_at hO1 k hlt
          subst hAo
          have hc0' := cell_below hB hc0
          have hc1' := cell_below hB hc1
          have hsc := hoo.sc
          have hx0 := hoo.c0
          have hx1 := hoo.c1
          have HXO := Lib.hid hxo
          unfold maxLen at hsc
          clear hxo hc0 hc1
          cases r with
          | false =>
            have HC : Hid (cg t.outs 0 = none) := Lib.hid hcg.out
            clear hcg
            go_wp2
            go_roundw
            case rel => exact ⟨k + 1, l, false, by omega, by go_num, rfl, rfl, hl0, by unfold topM; omega, HC, hB.alloc hB.size _⟩
            case measure => simp [intOf]; omega
          | true =>
            have HC : Hid (cg t.outs 0 = if x.coins < 0 ∨ topM - (topM - l) < x.coins then none else cg (t.outs.drop (k + 1)) (topM - l + x.coins)) := Lib.hid (by rw [hcg.out, if_pos rfl, cg_drop HXO.out])
            clear hcg
            by_cases f1 : x.coins < 0
            · have f1' : decide (x.coins < 0) = true := decide_eq_true f1
              have HR : Hid (cg t.outs 0 = none) := Lib.hid (by rw [HC.out, if_pos (Or.inl f1)])
              clear HC
              go_wp2
              go_roundw
              case rel => exact ⟨k + 1, l, false, by omega, by go_num, rfl, rfl, hl0, by unfold topM; omega, HR, hB.alloc hB.size _⟩
              case measure => simp [intOf]; omega
            · have f1' : decide (x.coins < 0) = false := decide_eq_false f1
              by_cases f2 : l < x.coins
              · have f2' : decide (l < x.coins) = true := decide_eq_true f2
                have HR : Hid (cg t.outs 0 = none) := Lib.hid (by rw [HC.out, if_pos (Or.inr (by omega))])
                clear HC
                go_wp2
                go_roundw
                case rel => exact ⟨k + 1, l, false, by omega, by go_num, rfl, rfl, hl0, by unfold topM; omega, HR, hB.alloc hB.size _⟩
                case measure => simp [intOf]; omega
              · have f2' : decide (l < x.coins) = false := decide_eq_false f2
                have HR : Hid (cg t.outs 0 = cg (t.outs.drop (k + 1)) (topM - (l - x.coins))) := Lib.hid (by rw [HC.out, if_neg (by omega), show topM - l + x.coins = topM - (l - x.coins) by omega])
                clear HC
                go_wp2
                go_roundw
                case rel => exact ⟨k + 1, l - x.coins, true, by omega, by go_num, by first | rfl | go_num, rfl, by omega, by unfold topM; omega, HR, hB.alloc hB.size _⟩
                case measure => simp [intOf]; omega
        · have hlt' : ¬ (k : Int) < (n2 : Int) := by omega
          have hgr := heap_below hB hg1
          have HCV : Hid (coinsV t = if r then .tuple #[.int .i64 (topM - l), .bool true] else .tuple #[.int .i64 0, .bool false]) := Lib.hid (by
            unfold coinsV
            rw [hcg.out, List.drop_eq_nil_of_le (by have := HI2.out; omega)]
            cases r <;> rfl)
          clear hcg t1 t2
          go_upto_region 14 with fail
          go_wp2_with (first | ((with_reducible refine wpList_at 48 ?_); refine wpList_load_row rfl 69 (.tmp 1) rfl w.heap.size rfl 69 _ _ _ hgr hU rfl hi4 ?_))
          refine (coins_calls wr _ t [.int .i32 t.ver, .slice A1 n1 c1, .slice A2 n2 c2, .int .u32 t.lock] (RK.K_below hK1 hB)).mono ?_
          rintro e w2 ⟨rfl, hb2⟩
          obtain ⟨Z, hZ⟩ : ∃ Z, zeros32 = Z := ⟨_, rfl⟩
          have HZ := Lib.hid hZ
          have HZL : Hid (Z.length = 32) := Lib.hid (by rw [← hZ]; rfl)
          clear hZ

          have hg2 := heap_below hb2 hgr
          have hB2 := below_then hbw hbw.size hb2
          have hK2 := RK.K_below (RK.K_below hK1 hB) hb2
          have hI2 := RK.C.below (RK.C.below hI1 hB) hb2
          have hN2 := hN.below hB2
          have tt1 : w2.cell? ⟨w.heap.size, 1, none⟩ = some (.slice A1 n1 c1) := blk_cell hg2 rfl
          have HCV2 := HCV.out
          clear hgr hbw hb2 hK1 hI1 hO1 hB HCV
          cases r with
          | true =>
            rw [HCV2]
            have hsb : wrap64 (2100000000000000 - l) = topM - l := by unfold wrap64 topM; omega
            rw [if_pos rfl]
            go_upto_region 17 with fail
            by_cases g1 : n1 = 1
            · skip
              subst g1
              obtain ⟨b, o, x, Aw, nw, cw, hA, hx, hr, hok, _, _, _⟩ := in_at hI2 0 (by omega)
              subst hA
              have hrp := range_in_pt hr
              rw [Nat.zero_mul, Nat.add_zero] at hrp
              have hri := range_pt_id hrp
              have hco : w2.cell? ⟨b, o + 32, none⟩ = some (.int .u32 x.out) := hrp 32 _ (ptL_at hok.idl x.out)
              have hih := info_hh x.id hok.idl
              have hEH := fun W => run_equalIn_nums (P := Tryd.prog) W 9998 25 5 32 .u8 .u8 hUH Tryd.underlying5 info_u8 x.id Z hok.idl HZL.out
              have HF : Hid (firstF t = (x.id == Z && x.out == 4294967295)) := Lib.hid (by
                rw [← HZ.out]
                obtain ⟨y, hy⟩ := List.length_eq_one_iff.1 HI1.out
                rw [hy] at hx
                obtain rfl := Option.some.inj hx
                unfold firstF
                rw [hy])
              clear hr hI2 hx hrp tt1
              have tt1 : w2.cell? ⟨w.heap.size, 1, none⟩ = some (.slice (some ⟨b, o, none⟩) 1 c1) := blk_cell hg2 rfl
              generalize hz1 : (x.id == Z) = z1 at hEH HF
              clear hz1
              generalize hz2 : (x.out == 4294967295) = z2 at HF
              cases z1 with
              | false =>
                rw [Bool.false_and] at HF
                clear hz2
                go_upto_region 18 with (first | ((with_reducible refine wpList_at 82 ?_); refine wpList_load_midG rfl 25 (.tmp 81) rfl b o rfl (nums .u8 x.id) _ hri hUH rfl hih ?_) | ((with_reducible refine wpList_at 83 ?_); refine wpList_build_hh rfl _ rfl rfl Z HZ ?_))
                go_wp2_with (first | ((with_reducible refine wpList_at 95 ?_); refine wpList_load_row rfl 69 (.tmp 1) rfl w.heap.size rfl 69 _ _ _ hg2 hU rfl hi4 ?_))
                refine (first_calls w2 _ t [.int .i32 t.ver, .slice (some ⟨b, o, none⟩) 1 c1, .slice A2 n2 c2, .int .u32 t.lock] hK2 hN2).mono ?_
                rintro e w3 ⟨rfl, hb3⟩
                rw [HF.out]
                have hB3 := below_then hB2 hB2.size hb3
                have hN3 := hN2.below hb3
                clear hg2 hK2 hN2 hB2 hb3
                go_wp2_with fail
                refine (nowhere_calls w3 hN3).mono ?_
                rintro e w4 ⟨rfl, hb4⟩
                have hB4 := below_then hB3 hB3.size hb4
                have hEQ := eq_pt Z Z 4294967295 4294967295 HZL.out HZL.out
                rw [beq_self_eq_true, beq_self_eq_true, Bool.and_self] at hEQ
                rw [HZ.out]
                clear hB3 hb4
                go_wp2_with (first | ((with_reducible refine wpList_at 101 ?_); refine wpList_build_pt rfl _ rfl rfl Z HZ ?_))
                go_ret
                exact ⟨rfl, hB4⟩

              | true =>
                rw [Bool.true_and] at HF
                go_upto_region 18 with (first | ((with_reducible refine wpList_at 82 ?_); refine wpList_load_midG rfl 25 (.tmp 81) rfl b o rfl (nums .u8 x.id) _ hri hUH rfl hih ?_) | ((with_reducible refine wpList_at 83 ?_); refine wpList_build_hh rfl _ rfl rfl Z HZ ?_))
                go_wp2_with (first | ((with_reducible refine wpList_at 95 ?_); refine wpList_load_row rfl 69 (.tmp 1) rfl w.heap.size rfl 69 _ _ _ hg2 hU rfl hi4 ?_))
                refine (first_calls w2 _ t [.int .i32 t.ver, .slice (some ⟨b, o, none⟩) 1 c1, .slice A2 n2 c2, .int .u32 t.lock] hK2 hN2).mono ?_
                rintro e w3 ⟨rfl, hb3⟩
                rw [HF.out]
                have hB3 := below_then hB2 hB2.size hb3
                have hN3 := hN2.below hb3
                clear hg2 hK2 hN2 hB2 hb3
                go_wp2_with fail
                refine (nowhere_calls w3 hN3).mono ?_
                rintro e w4 ⟨rfl, hb4⟩
                have hB4 := below_then hB3 hB3.size hb4
                have hEQ := eq_pt Z Z 4294967295 4294967295 HZL.out HZL.out
                rw [beq_self_eq_true, beq_self_eq_true, Bool.and_self] at hEQ
                rw [HZ.out]
                clear hB3 hb4
                go_wp2_with (first | ((with_reducible refine wpList_at 101 ?_); refine wpList_build_pt rfl _ rfl rfl Z HZ ?_))
                go_ret
                exact ⟨rfl, hB4⟩
            · skip
              have g1' : ((n1 : Int) == 1) = false := beq_eq_false_iff_ne.2 (by omega)
              have HF : Hid (firstF t = false) := Lib.hid (by
                unfold firstF
                split
                · rename_i y hy; have := HI1.out; rw [hy] at this; simp at this; omega
                · rfl)
              clear hI2
              go_upto_region 18 with fail
              go_wp2_with (first | ((with_reducible refine wpList_at 95 ?_); refine wpList_load_row rfl 69 (.tmp 1) rfl w.heap.size rfl 69 _ _ _ hg2 hU rfl hi4 ?_))
              refine (first_calls w2 _ t [.int .i32 t.ver, .slice A1 n1 c1, .slice A2 n2 c2, .int .u32 t.lock] hK2 hN2).mono ?_
              rintro e w3 ⟨rfl, hb3⟩
              rw [HF.out]
              have hB3 := below_then hB2 hB2.size hb3
              have hN3 := hN2.below hb3
              clear hg2 hK2 hN2 hB2 hb3
              go_wp2_with fail
              refine (nowhere_calls w3 hN3).mono ?_
              rintro e w4 ⟨rfl, hb4⟩
              have hB4 := below_then hB3 hB3.size hb4
              have hEQ := eq_pt Z Z 4294967295 4294967295 HZL.out HZL.out
              rw [beq_self_eq_true, beq_self_eq_true, Bool.and_self] at hEQ
              rw [HZ.out]
              clear hB3 hb4
              go_wp2_with (first | ((with_reducible refine wpList_at 101 ?_); refine wpList_build_pt rfl _ rfl rfl Z HZ ?_))
              go_ret
              exact ⟨rfl, hB4⟩
          | false =>
            rw [HCV2]
            rw [if_neg (by decide)]
            go_upto_region 17 with fail
            by_cases g1 : n1 = 1
            · skip
              subst g1
              obtain ⟨b, o, x, Aw, nw, cw, hA, hx, hr, hok, _, _, _⟩ := in_at hI2 0 (by omega)
              subst hA
              have hrp := range_in_pt hr
              rw [Nat.zero_mul, Nat.add_zero] at hrp
              have hri := range_pt_id hrp
              have hco : w2.cell? ⟨b, o + 32, none⟩ = some (.int .u32 x.out) := hrp 32 _ (ptL_at hok.idl x.out)
              have hih := info_hh x.id hok.idl
              have hEH := fun W => run_equalIn_nums (P := Tryd.prog) W 9998 25 5 32 .u8 .u8 hUH Tryd.underlying5 info_u8 x.id Z hok.idl HZL.out
              have HF : Hid (firstF t = (x.id == Z && x.out == 4294967295)) := Lib.hid (by
                rw [← HZ.out]
                obtain ⟨y, hy⟩ := List.length_eq_one_iff.1 HI1.out
                rw [hy] at hx
                obtain rfl := Option.some.inj hx
                unfold firstF
                rw [hy])
              clear hr hI2 hx hrp tt1
              have tt1 : w2.cell? ⟨w.heap.size, 1, none⟩ = some (.slice (some ⟨b, o, none⟩) 1 c1) := blk_cell hg2 rfl
              generalize hz1 : (x.id == Z) = z1 at hEH HF
              clear hz1
              generalize hz2 : (x.out == 4294967295) = z2 at HF
              cases z1 with
              | false =>
                rw [Bool.false_and] at HF
                clear hz2
                go_upto_region 18 with (first | ((with_reducible refine wpList_at 82 ?_); refine wpList_load_midG rfl 25 (.tmp 81) rfl b o rfl (nums .u8 x.id) _ hri hUH rfl hih ?_) | ((with_reducible refine wpList_at 83 ?_); refine wpList_build_hh rfl _ rfl rfl Z HZ ?_))
                go_wp2_with (first | ((with_reducible refine wpList_at 95 ?_); refine wpList_load_row rfl 69 (.tmp 1) rfl w.heap.size rfl 69 _ _ _ hg2 hU rfl hi4 ?_))
                refine (first_calls w2 _ t [.int .i32 t.ver, .slice (some ⟨b, o, none⟩) 1 c1, .slice A2 n2 c2, .int .u32 t.lock] hK2 hN2).mono ?_
                rintro e w3 ⟨rfl, hb3⟩
                rw [HF.out]
                have hB3 := below_then hB2 hB2.size hb3
                have hN3 := hN2.below hb3
                clear hg2 hK2 hN2 hB2 hb3
                go_wp2_with fail
                refine (nowhere_calls w3 hN3).mono ?_
                rintro e w4 ⟨rfl, hb4⟩
                have hB4 := below_then hB3 hB3.size hb4
                have hEQ := eq_pt Z Z 4294967295 4294967295 HZL.out HZL.out
                rw [beq_self_eq_true, beq_self_eq_true, Bool.and_self] at hEQ
                rw [HZ.out]
                clear hB3 hb4
                go_wp2_with (first | ((with_reducible refine wpList_at 101 ?_); refine wpList_build_pt rfl _ rfl rfl Z HZ ?_))
                go_ret
                exact ⟨rfl, hB4⟩

              | true =>
                rw [Bool.true_and] at HF
                go_upto_region 18 with (first | ((with_reducible refine wpList_at 82 ?_); refine wpList_load_midG rfl 25 (.tmp 81) rfl b o rfl (nums .u8 x.id) _ hri hUH rfl hih ?_) | ((with_reducible refine wpList_at 83 ?_); refine wpList_build_hh rfl _ rfl rfl Z HZ ?_))
                go_wp2_with (first | ((with_reducible refine wpList_at 95 ?_); refine wpList_load_row rfl 69 (.tmp 1) rfl w.heap.size rfl 69 _ _ _ hg2 hU rfl hi4 ?_))
                refine (first_calls w2 _ t [.int .i32 t.ver, .slice (some ⟨b, o, none⟩) 1 c1, .slice A2 n2 c2, .int .u32 t.lock] hK2 hN2).mono ?_
                rintro e w3 ⟨rfl, hb3⟩
                rw [HF.out]
                have hB3 := below_then hB2 hB2.size hb3
                have hN3 := hN2.below hb3
                clear hg2 hK2 hN2 hB2 hb3
                go_wp2_with fail
                refine (nowhere_calls w3 hN3).mono ?_
                rintro e w4 ⟨rfl, hb4⟩
                have hB4 := below_then hB3 hB3.size hb4
                have hEQ := eq_pt Z Z 4294967295 4294967295 HZL.out HZL.out
                rw [beq_self_eq_true, beq_self_eq_true, Bool.and_self] at hEQ
                rw [HZ.out]
                clear hB3 hb4
                go_wp2_with (first | ((with_reducible refine wpList_at 101 ?_); refine wpList_build_pt rfl _ rfl rfl Z HZ ?_))
                go_ret
                exact ⟨rfl, hB4⟩
            · skip
              have g1' : ((n1 : Int) == 1) = false := beq_eq_false_iff_ne.2 (by omega)
              have HF : Hid (firstF t = false) := Lib.hid (by
                unfold firstF
                split
                · rename_i y hy; have := HI1.out; rw [hy] at this; simp at this; omega
                · rfl)
              clear hI2
              go_upto_region 18 with fail
              go_wp2_with (first | ((with_reducible refine wpList_at 95 ?_); refine wpList_load_row rfl 69 (.tmp 1) rfl w.heap.size rfl 69 _ _ _ hg2 hU rfl hi4 ?_))
              refine (first_calls w2 _ t [.int .i32 t.ver, .slice A1 n1 c1, .slice A2 n2 c2, .int .u32 t.lock] hK2 hN2).mono ?_
              rintro e w3 ⟨rfl, hb3⟩
              rw [HF.out]
              have hB3 := below_then hB2 hB2.size hb3
              have hN3 := hN2.below hb3
              clear hg2 hK2 hN2 hB2 hb3
              go_wp2_with fail
              refine (nowhere_calls w3 hN3).mono ?_
              rintro e w4 ⟨rfl, hb4⟩
              have hB4 := below_then hB3 hB3.size hb4
              have hEQ := eq_pt Z Z 4294967295 4294967295 HZL.out HZL.out
              rw [beq_self_eq_true, beq_self_eq_true, Bool.and_self] at hEQ
              rw [HZ.out]
              clear hB3 hb4
              go_wp2_with (first | ((with_reducible refine wpList_at 101 ?_); refine wpList_build_pt rfl _ rfl rfl Z HZ ?_))
              go_ret
              exact ⟨rfl, hB4⟩
end Go.Proofs.YtjlkakggmfmfiaaDoor
