/- coin.Set.Apply: the set behind a block. -/
import Derived.Test.YtjlkakggmfmfiaaDoorBig19
set_option maxRecDepth 100000
set_option linter.unusedVariables false
namespace Go.Proofs.YtjlkakggmfmfiaaDoor
open Go Go.RowKit
theorem putAll_look : ∀ (l m o : List (Pt × Cn)), (∀ a, m.lookup a = o.lookup a) → ∀ a, (putAll m l).lookup a = (putAll o l).lookup a
  | [], _, _, h => h
  | x :: l, m, o, h => putAll_look l (putV m x.1 x.2) (putV o x.1 x.2) (fun a => by rw [lookup_putV, lookup_putV, h a])
theorem putAll_keys : ∀ (l m : List (Pt × Cn)), (keys m).Nodup → (keys (putAll m l)).Nodup
  | [], _, h => h
  | x :: l, m, h => putAll_keys l (putV m x.1 x.2) (by
      rw [keys_putV]
      split
      · exact h
      · rename_i hn
        exact List.nodup_append.2 ⟨h, by simp, fun a ha b hb e => hn (by rw [List.mem_singleton.1 hb] at e; exact e ▸ ha)⟩)
theorem applyF_perm {m o : List (Pt × Cn)} (d : Df) (hm : (keys m).Nodup) (h : m.Perm o) : (applyF m d).Perm (applyF o d) := by
  have ho : (keys o).Nodup := ((h.map Prod.fst).nodup_iff).1 hm
  have hl := putAll_look d.makes m o (lookup_perm hm h)
  have h1 := delAll_law d.uses _ (putAll_keys d.makes m hm)
  have h2 := delAll_law d.uses _ (putAll_keys d.makes o ho)
  exact perm_of_lookup _ _ h1.1 h2.1 (fun a => by
    show (delAll (putAll m d.makes) d.uses).lookup a = (delAll (putAll o d.makes) d.uses).lookup a
    rw [h1.2 a, h2.2 a, hl a])
theorem delAll_snoc (m : List (Pt × Cn)) (us : List Us) (u : Us) : delAll m (us ++ [u]) = delV (delAll m us) u.pt := by unfold delAll; rw [List.foldl_append]; rfl
theorem mkCells_cn {w : World} {b o : Nat} {x : Pt × Cn} (hk : MkOk x) (h : w.rangeAt b o (mkCells x)) : w.rangeAt b (o + 33) (cnCells x.2) := fun j v hv => by
  have hl := ptL_length hk.1.1.1 x.1.2
  have := h (33 + j) v (by
    unfold mkCells
    rw [List.getElem?_append_right (by omega), hl, show 33 + j - 33 = j by omega]
    exact hv)
  rwa [show o + 33 + j = o + (33 + j) by omega]
theorem eraseIdx_perm {α : Type} : ∀ (l : List α) (j : Nat) (x : α), l[j]? = some x → l.Perm (x :: l.eraseIdx j)
  | [], j, x, h => by simp at h
  | a :: r, 0, x, h => by
    obtain rfl : a = x := by simpa using h
    exact List.Perm.refl _
  | a :: r, j + 1, x, h => by
    rw [List.getElem?_cons_succ] at h
    rw [List.eraseIdx_cons_succ]
    exact ((eraseIdx_perm r j x h).cons a).trans (List.Perm.swap x a _)
theorem perm_step {o lft m : List (Pt × Cn)} {j : Nat} {x : Pt × Cn} (h : m.Perm (o ++ lft)) (hj : lft[j]? = some x) : m.Perm ((o ++ [x]) ++ lft.eraseIdx j) := by
  refine h.trans ?_
  rw [List.append_assoc]
  refine List.Perm.append_left o ?_
  exact eraseIdx_perm lft j x hj
set_option maxHeartbeats 16000000 in
theorem apply_calls (w : World) (S S3 : Nat → Prop) (b : Nat) (m : List (Pt × Cn)) (hM : SetV w b m) (hS : SetOk m) (hml : m.length ≤ 1000000) (Vi : Value) (A2 A3 : Option Addr) (n2 c2 n3 c3 : Nat) (fees : Int) (us : List Us) (ms : List (Pt × Cn)) (hn2 : n2 ≤ 1000000) (hU : usK.C S w A2 n2 us) (hn3 : n3 ≤ 1000000) (hK : mkK.C S3 w A3 n3 ms) :
    Calls Tryd.prog 60 #[.map (some b), .agg #[Vi, .slice A2 n2 c2, .slice A3 n3 c3, .int .i64 fees]] w fun e w' => ∃ b' o, e = .returned (.map (some b')) ∧ w.heap.size ≤ b' ∧ m.Perm o ∧ SetV w' b' (delAll (putAll o ms) us) ∧ Below w.heap.size w w' := by
  have hUS := Tryd.underlying108
  have hUM := Tryd.underlying107
  have hUP := Tryd.underlying77
  have hUC := Tryd.underlying106
  have hUU := Tryd.underlying124
  have hUK := Tryd.underlying130
  have hnI2 : (n2 : Int) ≤ 1000000 := by omega
  have hnI3 : (n3 : Int) ≤ 1000000 := by omega
  have hln2 := Lib.hid hU.len
  have hln3 := Lib.hid hK.len
  have HS := Lib.hid hS
  have HND := Lib.hid hM.apart
  have hbw := hM.lt
  have g0 := heap_alloc_new w (.cells #[Vi, .slice A2 n2 c2, .slice A3 n3 c3, .int .i64 fees] 99)
  have hb0 : Below w.heap.size w (w.alloc (.cells #[Vi, .slice A2 n2 c2, .slice A3 n3 c3, .int .i64 fees] 99)) := (Below.refl _ _).alloc (Nat.le_refl _) _
  go_enter Tryd.func60, Tryd.ntmps60
  go_upto_region 1 with fail
  refine wp_gen (q := fun wi => Below w.heap.size w wi ∧ wi.heap[w.heap.size]? = some (.cells #[Vi, .slice A2 n2 c2, .slice A3 n3 c3, .int .i64 fees] 99)) ⟨hb0, g0⟩ (fun w0 hw => ?_)
  clear hb0 g0 hS
  obtain ⟨hb0, g0⟩ := hw
  have hm0 : SetV (w0.alloc (.map #[] 0)) w0.heap.size [] := MapV.made w0
  have hbm : Below w.heap.size w (w0.alloc (.map #[] 0)) := hb0.alloc hb0.size _
  have gm := blk_alloc g0 (.map #[] 0)
  have hsm : w0.heap.size < (w0.alloc (.map #[] 0)).heap.size := by simp
  have km := run_makeMap (P := Tryd.prog) 108 w0
  go_upto_region 2 with fail
  clear km
  refine wp_gen (q := fun wi => SetV wi w0.heap.size [] ∧ Below w.heap.size w wi ∧ wi.heap[w.heap.size]? = some (.cells #[Vi, .slice A2 n2 c2, .slice A3 n3 c3, .int .i64 fees] 99) ∧ w0.heap.size < wi.heap.size) ⟨hm0, hbm, gm, hsm⟩ (fun w1 hw => ?_)
  clear hm0 hbm gm hsm
  obtain ⟨hm1, hb1, g1, hs1⟩ := hw
  have hM1 := hM.below hb1
  have hs0 := hb0.size
  have hgl := heap_lt g0
  go_wp2_with ((with_reducible refine wpList_at 14 ?_); refine wpList_rangeV rfl (.tmp 13) 108 77 106 rfl hUS rfl hM1 ?_; intro w2 hr2 hb2 hs2; go_frame)
  have hB2 := below_then hb1 hb1.size hb2
  have g2 := heap_below hb2 g1
  have hm2 := hm1.below hb2
  have hP2 : Hid (m.Perm ([] ++ m)) := Lib.hid (List.Perm.refl _)
  clear g1 hM1 hb2 hm1 hM g0
  go_loopw [15] (fun _ wr => ∃ o lft, RangeV PtOk wr b w1.heap.size pkv cnv m lft ∧ SetV wr w0.heap.size o ∧ Hid (m.Perm (o ++ lft)) ∧ wr.heap[w.heap.size]? = some (.cells #[Vi, .slice A2 n2 c2, .slice A3 n3 c3, .int .i64 fees] 99) ∧ Below w.heap.size w wr) (fun _ wr => wr.rangeLeft b w1.heap.size)
  case atStart => exact ⟨[], m, hr2, hm2, hP2, g2, hB2⟩
  case round =>
    clear hr2 hm2 hP2 g2 hB2 hs2
    obtain ⟨o, lft, hr, hm, HP, g, hB⟩ := hrel
    go_wp2_with ((with_reducible refine wpList_at 15 ?_); refine wpList_nextV rfl (.tmp 14) rfl rfl hr ?_ ?_)
    · intro hl0
      subst hl0
      have HPo : Hid (m.Perm o) := Lib.hid (by have := HP.out; rwa [List.append_nil] at this)
      have hol : o.length ≤ 1000000 := by have := HPo.out.length_eq; omega
      have hbl := heap_lt g
      clear HP hr
      rename World => wd
      have tS : wd.cell? ⟨w.heap.size, 2, none⟩ = some (.slice A3 n3 c3) := blk_cell g rfl
      have hm0 : SetV wd w0.heap.size (putAll o (ms.take 0)) := hm
      clear hm
      go_wp2
      go_loopw [26] (fun v26 wr => ∃ j : Nat, j ≤ n3 ∧ v26 = .int .i64 j ∧ SetV wr w0.heap.size (putAll o (ms.take j)) ∧ wr.heap[w.heap.size]? = some (.cells #[Vi, .slice A2 n2 c2, .slice A3 n3 c3, .int .i64 fees] 99) ∧ Below w.heap.size w wr) (fun v _ => n3 - (intOf v).toNat)
      case atStart => exact ⟨0, by omega, rfl, hm0, g, hB⟩
      case round =>
        clear hm0 g hB tS hbl
        obtain ⟨j, hj, rfl, hm, g, hB⟩ := hrel
        have hbm := hm.lt
        by_cases hlt : j < n3
        · have hlt' : (j : Int) < (n3 : Int) := by omega
          have hjj : (0 : Int) ≤ (j : Int) := by omega
          obtain ⟨b3, o3, cs, x, hA, hx, ⟨rfl, hk⟩, hc⟩ := (RK.C.below hK hB).get j hlt
          subst hA
          have hr : wr.rangeAt b3 (o3 + j * 68) (mkCells x) := hc
          have i1 := info_mk hk
          have i2 := info_mkA hk
          have ip := info_pt hk.1.1.1 x.1.2
          have ic := info_cn hk.2
          have HX : Hid (putAll o (ms.take (j + 1)) = putV (putAll o (ms.take j)) x.1 x.2) := Lib.hid (by rw [List.take_add_one, hx]; exact putAll_snoc _ _ _)
          clear hc hx
          go_upto_region 9 with (first
            | ((with_reducible refine wpList_at 29 ?_); refine wpList_load_mid rfl 130 (.tmp 28) rfl b3 (o3 + j * 68) rfl (mkCells x) _ hr hUK rfl i1 ?_)
            | ((with_reducible refine wpList_atS 9 ?_); refine wpList_store_any rfl 130 (.tmp 9) (.tmp 29) rfl wr.heap.size (mkCells x).toArray rfl rfl 130 (mkCells mk0).toArray (heap_alloc_new _ _) i2 (size_mk mk0_ok hk) (mkCells_all _) ?_; intro w2 g2 ht2))
          have hb2 : Below wr.heap.size wr w2 := ht2.below ((Below.refl _ _).alloc (Nat.le_refl _) _) (Nat.le_refl _)
          have hm2 := hm.below hb2
          have gb2 := heap_below hb2 g
          have hB2 := below_then hB hB.size hb2
          have r1 := range_mk_pt (range_block (xs := mkCells x) g2)
          have r2 : w2.rangeAt wr.heap.size 33 (cnCells x.2) := by have := mkCells_cn hk (range_block (xs := mkCells x) g2); rwa [Nat.zero_add] at this
          have hroom : (putAll o (ms.take j)).length < maxLen := by have := putAll_length (ms.take j) o; rw [List.length_take] at this; unfold maxLen; omega
          obtain ⟨w3, hput, hm3, ht3⟩ := MapV.put (P := Tryd.prog) keyPt hUS hm2 hroom hk.1 x.2
          have hput' : (Instr.mapUpdate 108 (.map (some w0.heap.size)) (.agg (ptL x.1.1 x.1.2).toArray) (.agg (cnCells x.2).toArray)).run Tryd.prog w2 = .ok () w3 := hput
          rw [← HX.out] at hm3
          have gb3 := ht3.keep gb2 (by omega)
          have hB3 := ht3.below hB2 (by omega)
          clear hroom hput hm g hB hr ht2 hb2 hm2 gb2 hB2 ht3
          go_wp2_with (first
            | ((with_reducible refine wpList_at 32 ?_); refine wpList_load_mid rfl 77 (.tmp 31) rfl wr.heap.size 0 rfl (ptL x.1.1 x.1.2) _ r1 hUP rfl ip ?_)
            | ((with_reducible refine wpList_at 34 ?_); refine wpList_load_mid rfl 106 (.tmp 33) rfl wr.heap.size 33 rfl (cnCells x.2) _ r2 hUC rfl ic ?_)
            | (refine wpList_mapUpd rfl (.tmp 30) (.tmp 32) (.tmp 34) 108 rfl (.map (some w0.heap.size)) (.agg (ptL x.1.1 x.1.2).toArray) (.agg (cnCells x.2).toArray) rfl rfl rfl hput' ?_))
          go_roundw
          case rel => exact ⟨j + 1, by omega, by go_num, hm3, gb3, hB3⟩
          case measure => simp [intOf]; omega
        · have hlt' : ¬ (j : Int) < (n3 : Int) := by omega
          have hme : SetV wr w0.heap.size (putAll o ms) := by rwa [List.take_of_length_le (by rw [hln3.out]; omega)] at hm
          rename World => we
          have tS : we.cell? ⟨w.heap.size, 1, none⟩ = some (.slice A2 n2 c2) := blk_cell g rfl
          have hm0 : SetV we w0.heap.size (delAll (putAll o ms) (us.take 0)) := hme
          clear hme hm
          go_wp2
          go_loopw [39] (fun v39 wr => ∃ j : Nat, j ≤ n2 ∧ v39 = .int .i64 j ∧ SetV wr w0.heap.size (delAll (putAll o ms) (us.take j)) ∧ Below w.heap.size w wr) (fun v _ => n2 - (intOf v).toNat)
          case atStart => exact ⟨0, by omega, rfl, hm0, hB⟩
          case round =>
            clear hm0 g hB tS hbm
            obtain ⟨i, hi, rfl, hm, hB⟩ := hrel
            have hbm := hm.lt
            by_cases hil : i < n2
            · have hil' : (i : Int) < (n2 : Int) := by omega
              have hii : (0 : Int) ≤ (i : Int) := by omega
              obtain ⟨b3, o3, cs, u, hA, hx, ⟨rfl, hk⟩, hc⟩ := (RK.C.below hU hB).get i hil
              subst hA
              have hr : wr.rangeAt b3 (o3 + i * 70) (usCells u) := hc
              have i1 := info_us hk
              have i2 := info_usA hk
              have ip := info_pt hk.1.1.1 u.pt.2
              have HX : Hid (delAll (putAll o ms) (us.take (i + 1)) = delV (delAll (putAll o ms) (us.take i)) u.pt) := Lib.hid (by rw [List.take_add_one, hx]; exact delAll_snoc _ _ _)
              clear hc hx
              go_upto_region 14 with (first
                | ((with_reducible refine wpList_at 42 ?_); refine wpList_load_mid rfl 124 (.tmp 41) rfl b3 (o3 + i * 70) rfl (usCells u) _ hr hUU rfl i1 ?_)
                | ((with_reducible refine wpList_atS 11 ?_); refine wpList_store_any rfl 124 (.tmp 11) (.tmp 42) rfl wr.heap.size (usCells u).toArray rfl rfl 124 (usCells us0).toArray (heap_alloc_new _ _) i2 (size_us us0_ok hk) (usCells_all _) ?_; intro w2 g2 ht2))
              have hb2 : Below wr.heap.size wr w2 := ht2.below ((Below.refl _ _).alloc (Nat.le_refl _) _) (Nat.le_refl _)
              have hm2 := hm.below hb2
              have hB2 := below_then hB hB.size hb2
              have r1 := usCells_pt (range_block (xs := usCells u) g2)
              obtain ⟨w3, hdel, hm3, ht3⟩ := MapV.del (P := Tryd.prog) (ty := 0) keyPt hUS hm2 hk.1
              have hdel' : (Builtin.delete_ #[108, 77] 0 #[.map (some w0.heap.size), .agg (ptL u.pt.1 u.pt.2).toArray]).run Tryd.prog w2 = .ok (.tuple #[]) w3 := hdel
              rw [← HX.out] at hm3
              have hB3 := ht3.below hB2 (by omega)
              clear hdel hm hB hr ht2 hb2 hm2 hB2 ht3
              go_wp2_with (first
                | ((with_reducible refine wpList_at 45 ?_); refine wpList_load_mid rfl 77 (.tmp 44) rfl wr.heap.size 2 rfl (ptL u.pt.1 u.pt.2) _ r1 hUP rfl ip ?_))
              go_roundw
              case rel => exact ⟨i + 1, by omega, by go_num, hm3, hB3⟩
              case measure => simp [intOf]; omega
            · have hil' : ¬ (i : Int) < (n2 : Int) := by omega
              have hme : SetV wr w0.heap.size (delAll (putAll o ms) us) := by rwa [List.take_of_length_le (by rw [hln2.out]; omega)] at hm
              go_wp2
              go_ret
              exact ⟨_, rfl, by omega, o, HPo.out, hme, hB⟩
    · intro j pa pb v w3 hj hr3 ht hen
      have hx := HS.out _ (hr.sub.subset (List.mem_of_getElem? hj))
      have hen' : (Instr.entry (.pointer (some ⟨w1.heap.size, 0, none⟩))).run Tryd.prog w3 = .ok (.tuple #[.agg (ptL pa pb).toArray, .agg (cnCells v).toArray]) w3 := hen
      have HPn := Lib.hid (perm_step HP.out hj)
      have hll : (lft.eraseIdx j).length < lft.length := by
        have := (List.getElem?_eq_some_iff.1 hj).1
        rw [List.length_eraseIdx_of_lt this]
        omega
      have hM1 := Lib.hid hr.left_eq
      have hol : o.length < maxLen := by have := HP.out.length_eq; rw [List.length_append] at this; unfold maxLen; omega
      have HNW : Hid (putV o (pa, pb) v = o ++ [((pa, pb), v)]) := Lib.hid (putV_new o (pa, pb) v (fun p hp e => by
        have hn := ((HP.out.map Prod.fst).nodup_iff).1 HND.out
        rw [List.map_append, List.nodup_append] at hn
        exact hn.2.2 p.1 (List.mem_map_of_mem hp) (pa, pb) (List.mem_map.2 ⟨_, List.mem_of_getElem? hj, rfl⟩) e))
      have hlr := hr.lt
      have g3 := ht.keep g (by omega)
      have hm3 : SetV w3 w0.heap.size o := hm.keep (ht.block _ (by omega))
      have hB3 := ht.below hB (by omega)
      have hs3 : wr.heap.size ≤ w3.heap.size := by have := ht.size; omega
      clear hen hj g hm hB ht HP
      have q1 := blk_alloc (heap_alloc_new w3 (.cells (ptL zeros32 0).toArray 77)) (.cells (cnCells cn0).toArray 106)
      have q2 := heap_alloc_new (w3.alloc (.cells (ptL zeros32 0).toArray 77)) (.cells (cnCells cn0).toArray 106)
      rw [show (w3.alloc (.cells (ptL zeros32 0).toArray 77)).heap.size = w3.heap.size + 1 by simp] at q2
      have hbA : Below w3.heap.size w3 ((w3.alloc (.cells (ptL zeros32 0).toArray 77)).alloc (.cells (cnCells cn0).toArray 106)) := ((Below.refl _ _).alloc (Nat.le_refl _) _).alloc (by simp) _
      have i1 := info_ptA hx.1.1.1 pb
      have i2 := info_cnA hx.2
      go_upto_region 5 with (first
        | ((with_reducible refine wpList_atS 6 ?_); refine wpList_store_any rfl 77 (.tmp 6) (.tmp 18) rfl w3.heap.size (ptL pa pb).toArray rfl rfl 77 (ptL zeros32 0).toArray q1 i1 (size_pt zeros32_len hx.1.1.1 0 pb) (ptL_all _ _) ?_; intro w4 k4 ht4; have q3 := ht4.keep q2 (by omega))
        | ((with_reducible refine wpList_atS 7 ?_); refine wpList_store_any rfl 106 (.tmp 7) (.tmp 19) rfl (w3.heap.size + 1) (cnCells v).toArray rfl rfl 106 (cnCells cn0).toArray q3 i2 (size_cn cn0_ok hx.2) (cnCells_all _) ?_; intro w5 k5 ht5))
      have k4' := ht5.keep k4 (by omega)
      have hb5 := ht5.below (ht4.below hbA (Nat.le_refl _)) (Nat.le_succ _)
      have hr5 := hr3.below hb5
      have hm5 := hm3.below hb5
      have g5 := heap_below hb5 g3
      have hB5 := below_then hB3 (by omega) hb5
      clear q1 q2 q3 hbA k4 ht4 ht5 hr3 hm3 g3 hB3 hen'
      obtain ⟨w6, hput, hm6, ht6⟩ := MapV.put (P := Tryd.prog) keyPt hUS hm5 hol hx.1 v
      rw [HNW.out] at hm6
      have hput' : (Instr.mapUpdate 108 (.map (some w0.heap.size)) (.agg (ptL pa pb).toArray) (.agg (cnCells v).toArray)).run Tryd.prog w5 = .ok () w6 := hput
      have hr6 : RangeV PtOk w6 b w1.heap.size pkv cnv m (lft.eraseIdx j) := hr5.keep (ht6.block _ (by omega)) (ht6.block _ (by omega))
      have g6 := ht6.keep g5 (by omega)
      have hB6 := ht6.below hB5 (by omega)
      have hMl := Lib.hid hr6.left_eq
      clear hput hr5 hm5 g5 hB5 ht6
      go_wp2_with (first
        | ((with_reducible refine wpList_at 21 ?_); refine wpList_load_row rfl 77 (.tmp 6) rfl w3.heap.size rfl 77 _ _ _ k4' hUP rfl i1 ?_)
        | ((with_reducible refine wpList_at 22 ?_); refine wpList_load_row rfl 106 (.tmp 7) rfl (w3.heap.size + 1) rfl 106 _ _ _ k5 hUC rfl i2 ?_)
        | (refine wpList_mapUpd rfl (.tmp 20) (.tmp 21) (.tmp 22) 108 rfl (.map (some w0.heap.size)) (.agg (ptL pa pb).toArray) (.agg (cnCells v).toArray) rfl rfl rfl hput' ?_))
      go_roundw
      case rel => exact ⟨_, lft.eraseIdx j, hr6, hm6, HPn⟩
      case measure => rw [hMl.out, hM1.out]; omega
end Go.Proofs.YtjlkakggmfmfiaaDoor
