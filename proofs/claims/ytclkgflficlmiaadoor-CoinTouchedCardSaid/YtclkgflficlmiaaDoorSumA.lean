/- Law 19's big, and Set.Apply. | coin.Set.Apply: the set behind a block. | Sums of coins, in plain terms: a block makes what it uses, less the fees, and its first transaction's own; the set behind it holds accordingly. | The set so far, in plain terms; what is left lies in it. -/
import Derived.Test.YtclkgflficlmiaaDoorLeftA
/-! ## SumA -/
section
/-! ## Big19 -/
section
set_option maxRecDepth 100000
set_option linter.unusedVariables false
namespace Go.Proofs.YtclkgflficlmiaaDoor
open Go Go.RowKit
/-- What the law's guard lets through. -/
def BlksOk (bs : List (List TPay)) : Prop := bs.length ≤ 8 ∧ ∀ ps ∈ bs, PaysOk ps
abbrev blksK : RK (List TPay) := RK.slice payK
def Big19Post (w : World) (bs : List (List TPay)) (e : Ending) (w' : World) : Prop := ∃ b, e = .returned (.bool b) ∧ (b = false → BlksOk bs) ∧ Below w.heap.size w w'
set_option maxHeartbeats 16000000 in
theorem big19_calls (w : World) (S : Nat → Prop) (A : Option Addr) (n c : Nat) (bs : List (List TPay)) (hnc : n ≤ c) (hcm : c ≤ maxLen) (hC : blksK.C S w A n bs) :
    Calls Tryd.prog 45 #[.slice A n c] w (Big19Post w bs) := by
  have hUY := Tryd.underlying139
  unfold maxLen at hcm
  have hnI : (n : Int) ≤ 9223372036854775807 := by omega
  have HL := Lib.hid hC.len
  go_enter Tryd.func45, Tryd.ntmps45
  by_cases e1 : 8 < n
  · have e1' : (8 : Int) < (n : Int) := by omega
    go_wp2
    go_ret
    exact ⟨true, rfl, (fun h => by cases h), Below.refl _ _⟩
  · have e1' : ¬ (8 : Int) < (n : Int) := by omega
    go_wp2
    go_loopw [12] (fun v12 wr => ∃ (k : Nat), k ≤ n ∧ v12 = .int .i64 k ∧ Hid (∀ t ∈ bs.take k, PaysOk t) ∧ Below w.heap.size w wr) (fun v _ => n - (intOf v).toNat)
    case atStart => exact ⟨0, by omega, rfl, Lib.hid (fun t h => by simp at h), Below.refl _ _⟩
    case round =>
      obtain ⟨k, hk, rfl, HT, hB⟩ := hrel
      rename World => wo
      by_cases hlt : k < n
      · have hlt' : (k : Int) < (n : Int) := by omega
        have hkk : (0 : Int) ≤ (k : Int) := by omega
        obtain ⟨b, o, cs, ps, hA, hx, ⟨P1, np, pc, rfl, hpc, hpm, hP⟩, hcx⟩ := (RK.C.below hC hB).get k hlt
        subst hA
        unfold maxLen at hpm
        have hnpI : (np : Int) ≤ 9223372036854775807 := by omega
        have hcl : wo.cell? ⟨b, o + k, none⟩ = some (.slice P1 np pc) := by
          have := hcx 0 _ (show [Value.slice P1 np pc][0]? = some (.slice P1 np pc) from rfl)
          rwa [show (RK.slice payK).sz = 1 from rfl, Nat.mul_one, Nat.add_zero] at this
        have HX := Lib.hid hx
        have HPL := Lib.hid hP.len
        clear hx hcx
        by_cases f1 : 6 < np
        · have f1' : (6 : Int) < (np : Int) := by omega
          go_wp2
          go_ret
          exact ⟨true, rfl, (fun h => by cases h), hB⟩
        · have f1' : ¬ (6 : Int) < (np : Int) := by omega
          go_wp2
          go_loopw [21] (fun v21 wq => ∃ (j : Nat), j ≤ np ∧ v21 = .int .i64 j ∧ Hid (∀ y ∈ ps.take j, y.1.length ≤ 6 ∧ y.2.1.length ≤ 6) ∧ Below wo.heap.size wo wq) (fun v _ => np - (intOf v).toNat)
          case atStart => exact ⟨0, by omega, rfl, Lib.hid (fun y h => by simp at h), Below.refl _ _⟩
          case round =>
            obtain ⟨j, hj, rfl, HI, hBq⟩ := hrel
            have hbq := below_then hB hB.size hBq
            by_cases hjl : j < np
            · have hjl' : (j : Int) < (np : Int) := by omega
              have hjj : (0 : Int) ≤ (j : Int) := by omega
              obtain ⟨b2, o2, cs2, y, hA2, hy, hKy, hc2⟩ := (RK.C.below hP hBq).get j hjl
              obtain ⟨frm, tos, lock⟩ := y
              obtain ⟨c1, c2, rfl, ⟨Af, nf, cf, rfl, hf1, hf2, hfC⟩, c3, c4, rfl, ⟨Ag, ng, cg, rfl, hg1, hg2, hgC⟩, rfl, hl0, hl1⟩ := hKy
              subst hA2
              unfold maxLen at hf2 hg2
              have hnfI : (nf : Int) ≤ 9223372036854775807 := by omega
              have hngI : (ng : Int) ≤ 9223372036854775807 := by omega
              have hcr : wr.rangeAt b2 (o2 + j * 3) [.slice Af nf cf, .slice Ag ng cg, .int .i64 lock] := hc2
              have hiY : (Tryd.prog.info? 139).map (·.size) = some ([.slice Af nf cf, .slice Ag ng cg, .int .i64 lock] : List Value).length := by rw [show ([.slice Af nf cf, .slice Ag ng cg, .int .i64 lock] : List Value).length = 3 from rfl]; kernel_rfl
              have HY := Lib.hid hy
              have HF1 := Lib.hid hfC.len
              have HF2 := Lib.hid hgC.len
              clear hy hc2 hfC hgC
              go_upto_region 11 with (first
                | ((with_reducible refine wpList_at 24 ?_); refine wpList_load_mid rfl 139 (.tmp 23) rfl b2 (o2 + j * 3) rfl [.slice Af nf cf, .slice Ag ng cg, .int .i64 lock] _ hcr hUY rfl hiY ?_))
              refine wp_gen (q := fun wi => wi.heap[wr.heap.size]? = some (.cells #[.slice Af nf cf, .slice Ag ng cg, .int .i64 lock] 139) ∧ Below wr.heap.size wr wi) ⟨heap_alloc_new _ _, (Below.refl _ _).alloc (Nat.le_refl _) _⟩ (fun w3 hw => ?_)
              obtain ⟨g3, hb3⟩ := hw
              have t0 : w3.cell? ⟨wr.heap.size, 0, none⟩ = some (.slice Af nf cf) := blk_cell g3 rfl
              have t1 : w3.cell? ⟨wr.heap.size, 1, none⟩ = some (.slice Ag ng cg) := blk_cell g3 rfl
              have hB3 := below_then hBq hBq.size hb3
              have hbq3 := below_then hbq hbq.size hb3
              clear g3 hcr hBq hbq
              by_cases q1 : 6 < nf
              · have q1' : decide ((6 : Int) < (nf : Int)) = true := decide_eq_true (by omega)
                go_wp2
                go_ret
                exact ⟨true, rfl, (fun h => by cases h), hbq3⟩
              · have q1' : decide ((6 : Int) < (nf : Int)) = false := decide_eq_false (by omega)
                by_cases q2 : 6 < ng
                · have q2' : decide ((6 : Int) < (ng : Int)) = true := decide_eq_true (by omega)
                  go_wp2
                  go_ret
                  exact ⟨true, rfl, (fun h => by cases h), hbq3⟩
                · have q2' : decide ((6 : Int) < (ng : Int)) = false := decide_eq_false (by omega)
                  have HN : Hid (∀ y ∈ ps.take (j + 1), y.1.length ≤ 6 ∧ y.2.1.length ≤ 6) := Lib.hid (by
                    intro y hy
                    rw [List.take_add_one, HY.out] at hy
                    rcases List.mem_append.1 hy with hy | hy
                    · exact HI.out y hy
                    · obtain rfl : y = (frm, tos, lock) := by simpa using hy
                      exact ⟨by rw [HF1.out]; omega, by rw [HF2.out]; omega⟩)
                  go_wp2
                  go_roundw
                  case rel => exact ⟨j + 1, by omega, by go_num, HN, hB3⟩
                  case measure => simp [intOf]; omega
            · have hjl' : ¬ (j : Int) < (np : Int) := by omega
              have HPO : Hid (PaysOk ps) := Lib.hid ⟨by rw [HPL.out]; omega, fun y hy => HI.out y (by rwa [List.take_of_length_le (by rw [HPL.out]; omega)])⟩
              have HN : Hid (∀ t ∈ bs.take (k + 1), PaysOk t) := Lib.hid (by
                intro t ht
                rw [List.take_add_one, HX.out] at ht
                rcases List.mem_append.1 ht with ht | ht
                · exact HT.out t ht
                · obtain rfl : t = ps := by simpa using ht
                  exact HPO.out)
              go_wp2
              go_roundw
              case rel => exact ⟨k + 1, by omega, by go_num, HN, hbq⟩
              case measure => simp [intOf]; omega
      · have hlt' : ¬ (k : Int) < (n : Int) := by omega
        have HBO : Hid (BlksOk bs) := Lib.hid ⟨by rw [HL.out]; omega, fun t ht => HT.out t (by rwa [List.take_of_length_le (by rw [HL.out]; omega)])⟩
        go_wp2
        go_ret
        exact ⟨false, rfl, fun _ => HBO.out, hB⟩
end Go.Proofs.YtclkgflficlmiaaDoor
end

/-! ## Apply -/
section
set_option maxRecDepth 100000
set_option linter.unusedVariables false
namespace Go.Proofs.YtclkgflficlmiaaDoor
open Go Go.RowKit
theorem putAll_look : ∀ (l m o : List (Pt × Cn)), (∀ a, m.lookup a = o.lookup a) → ∀ a, (putAll m l).lookup a = (putAll o l).lookup a
  | [], _, _, h => h
  | x :: l, m, o, h => putAll_look l (putV m x.1 x.2) (putV o x.1 x.2) (fun a => by rw [lookup_putV, lookup_putV, h a])
theorem putAll_keys : ∀ (l m : List (Pt × Cn)), (keys m).Nodup → (keys (putAll m l)).Nodup
  | [], _, h => h
  | x :: l, m, h => putAll_keys l (putV m x.1 x.2) (by
      rw [keys_putV]
      split
      · exact h
      · rename_i hn
        exact List.nodup_append.2 ⟨h, by simp, fun a ha b hb e => hn (by rw [List.mem_singleton.1 hb] at e; exact e ▸ ha)⟩)
theorem applyF_perm {m o : List (Pt × Cn)} (d : Df) (hm : (keys m).Nodup) (h : m.Perm o) : (applyF m d).Perm (applyF o d) := by
  have ho : (keys o).Nodup := ((h.map Prod.fst).nodup_iff).1 hm
  have hl := putAll_look d.makes m o (lookup_perm hm h)
  have h1 := delAll_law d.uses _ (putAll_keys d.makes m hm)
  have h2 := delAll_law d.uses _ (putAll_keys d.makes o ho)
  exact perm_of_lookup _ _ h1.1 h2.1 (fun a => by
    show (delAll (putAll m d.makes) d.uses).lookup a = (delAll (putAll o d.makes) d.uses).lookup a
    rw [h1.2 a, h2.2 a, hl a])
theorem delAll_snoc (m : List (Pt × Cn)) (us : List Us) (u : Us) : delAll m (us ++ [u]) = delV (delAll m us) u.pt := by unfold delAll; rw [List.foldl_append]; rfl
theorem mkCells_cn {w : World} {b o : Nat} {x : Pt × Cn} (hk : MkOk x) (h : w.rangeAt b o (mkCells x)) : w.rangeAt b (o + 33) (cnCells x.2) := fun j v hv => by
  have hl := ptL_length hk.1.1.1 x.1.2
  have := h (33 + j) v (by
    unfold mkCells
    rw [List.getElem?_append_right (by omega), hl, show 33 + j - 33 = j by omega]
    exact hv)
  rwa [show o + 33 + j = o + (33 + j) by omega]
theorem eraseIdx_perm {α : Type} : ∀ (l : List α) (j : Nat) (x : α), l[j]? = some x → l.Perm (x :: l.eraseIdx j)
  | [], j, x, h => by simp at h
  | a :: r, 0, x, h => by
    obtain rfl : a = x := by simpa using h
    exact List.Perm.refl _
  | a :: r, j + 1, x, h => by
    rw [List.getElem?_cons_succ] at h
    rw [List.eraseIdx_cons_succ]
    exact ((eraseIdx_perm r j x h).cons a).trans (List.Perm.swap x a _)
theorem perm_step {o lft m : List (Pt × Cn)} {j : Nat} {x : Pt × Cn} (h : m.Perm (o ++ lft)) (hj : lft[j]? = some x) : m.Perm ((o ++ [x]) ++ lft.eraseIdx j) := by
  refine h.trans ?_
  rw [List.append_assoc]
  refine List.Perm.append_left o ?_
  exact eraseIdx_perm lft j x hj
set_option maxHeartbeats 16000000 in
theorem apply_calls (w : World) (S S3 : Nat → Prop) (b : Nat) (m : List (Pt × Cn)) (hM : SetV w b m) (hS : SetOk m) (hml : m.length ≤ 1000000) (Vi : Value) (A2 A3 : Option Addr) (n2 c2 n3 c3 : Nat) (fees : Int) (us : List Us) (ms : List (Pt × Cn)) (hn2 : n2 ≤ 1000000) (hU : usK.C S w A2 n2 us) (hn3 : n3 ≤ 1000000) (hK : mkK.C S3 w A3 n3 ms) :
    Calls Tryd.prog 47 #[.map (some b), .agg #[Vi, .slice A2 n2 c2, .slice A3 n3 c3, .int .i64 fees]] w fun e w' => ∃ b' o, e = .returned (.map (some b')) ∧ w.heap.size ≤ b' ∧ m.Perm o ∧ SetV w' b' (delAll (putAll o ms) us) ∧ Below w.heap.size w w' := by
  have hUS := Tryd.underlying100
  have hUM := Tryd.underlying99
  have hUP := Tryd.underlying64
  have hUC := Tryd.underlying106
  have hUU := Tryd.underlying108
  have hUK := Tryd.underlying110
  have hnI2 : (n2 : Int) ≤ 1000000 := by omega
  have hnI3 : (n3 : Int) ≤ 1000000 := by omega
  have hln2 := Lib.hid hU.len
  have hln3 := Lib.hid hK.len
  have HS := Lib.hid hS
  have HND := Lib.hid hM.apart
  have hbw := hM.lt
  have g0 := heap_alloc_new w (.cells #[Vi, .slice A2 n2 c2, .slice A3 n3 c3, .int .i64 fees] 86)
  have hb0 : Below w.heap.size w (w.alloc (.cells #[Vi, .slice A2 n2 c2, .slice A3 n3 c3, .int .i64 fees] 86)) := (Below.refl _ _).alloc (Nat.le_refl _) _
  go_enter Tryd.func47, Tryd.ntmps47
  go_upto_region 1 with fail
  refine wp_gen (q := fun wi => Below w.heap.size w wi ∧ wi.heap[w.heap.size]? = some (.cells #[Vi, .slice A2 n2 c2, .slice A3 n3 c3, .int .i64 fees] 86)) ⟨hb0, g0⟩ (fun w0 hw => ?_)
  clear hb0 g0 hS
  obtain ⟨hb0, g0⟩ := hw
  have hm0 : SetV (w0.alloc (.map #[] 0)) w0.heap.size [] := MapV.made w0
  have hbm : Below w.heap.size w (w0.alloc (.map #[] 0)) := hb0.alloc hb0.size _
  have gm := blk_alloc g0 (.map #[] 0)
  have hsm : w0.heap.size < (w0.alloc (.map #[] 0)).heap.size := by simp
  have km := run_makeMap (P := Tryd.prog) 100 w0
  go_upto_region 2 with fail
  clear km
  refine wp_gen (q := fun wi => SetV wi w0.heap.size [] ∧ Below w.heap.size w wi ∧ wi.heap[w.heap.size]? = some (.cells #[Vi, .slice A2 n2 c2, .slice A3 n3 c3, .int .i64 fees] 86) ∧ w0.heap.size < wi.heap.size) ⟨hm0, hbm, gm, hsm⟩ (fun w1 hw => ?_)
  clear hm0 hbm gm hsm
  obtain ⟨hm1, hb1, g1, hs1⟩ := hw
  have hM1 := hM.below hb1
  have hs0 := hb0.size
  have hgl := heap_lt g0
  go_wp2_with ((with_reducible refine wpList_at 14 ?_); refine wpList_rangeV rfl (.tmp 13) 100 64 106 rfl hUS rfl hM1 ?_; intro w2 hr2 hb2 hs2; go_frame)
  have hB2 := below_then hb1 hb1.size hb2
  have g2 := heap_below hb2 g1
  have hm2 := hm1.below hb2
  have hP2 : Hid (m.Perm ([] ++ m)) := Lib.hid (List.Perm.refl _)
  clear g1 hM1 hb2 hm1 hM g0
  go_loopw [15] (fun _ wr => ∃ o lft, RangeV PtOk wr b w1.heap.size pkv cnv m lft ∧ SetV wr w0.heap.size o ∧ Hid (m.Perm (o ++ lft)) ∧ wr.heap[w.heap.size]? = some (.cells #[Vi, .slice A2 n2 c2, .slice A3 n3 c3, .int .i64 fees] 86) ∧ Below w.heap.size w wr) (fun _ wr => wr.rangeLeft b w1.heap.size)
  case atStart => exact ⟨[], m, hr2, hm2, hP2, g2, hB2⟩
  case round =>
    clear hr2 hm2 hP2 g2 hB2 hs2
    obtain ⟨o, lft, hr, hm, HP, g, hB⟩ := hrel
    go_wp2_with ((with_reducible refine wpList_at 15 ?_); refine wpList_nextV rfl (.tmp 14) rfl rfl hr ?_ ?_)
    · intro hl0
      subst hl0
      have HPo : Hid (m.Perm o) := Lib.hid (by have := HP.out; rwa [List.append_nil] at this)
      have hol : o.length ≤ 1000000 := by have := HPo.out.length_eq; omega
      have hbl := heap_lt g
      clear HP hr
      rename World => wd
      have tS : wd.cell? ⟨w.heap.size, 2, none⟩ = some (.slice A3 n3 c3) := blk_cell g rfl
      have hm0 : SetV wd w0.heap.size (putAll o (ms.take 0)) := hm
      clear hm
      go_wp2
      go_loopw [26] (fun v26 wr => ∃ j : Nat, j ≤ n3 ∧ v26 = .int .i64 j ∧ SetV wr w0.heap.size (putAll o (ms.take j)) ∧ wr.heap[w.heap.size]? = some (.cells #[Vi, .slice A2 n2 c2, .slice A3 n3 c3, .int .i64 fees] 86) ∧ Below w.heap.size w wr) (fun v _ => n3 - (intOf v).toNat)
      case atStart => exact ⟨0, by omega, rfl, hm0, g, hB⟩
      case round =>
        clear hm0 g hB tS hbl
        obtain ⟨j, hj, rfl, hm, g, hB⟩ := hrel
        have hbm := hm.lt
        by_cases hlt : j < n3
        · have hlt' : (j : Int) < (n3 : Int) := by omega
          have hjj : (0 : Int) ≤ (j : Int) := by omega
          obtain ⟨b3, o3, cs, x, hA, hx, ⟨rfl, hk⟩, hc⟩ := (RK.C.below hK hB).get j hlt
          subst hA
          have hr : wr.rangeAt b3 (o3 + j * 68) (mkCells x) := hc
          have i1 := info_mk hk
          have i2 := info_mkA hk
          have ip := info_pt hk.1.1.1 x.1.2
          have ic := info_cn hk.2
          have HX : Hid (putAll o (ms.take (j + 1)) = putV (putAll o (ms.take j)) x.1 x.2) := Lib.hid (by rw [List.take_add_one, hx]; exact putAll_snoc _ _ _)
          clear hc hx
          go_upto_region 9 with (first
            | ((with_reducible refine wpList_at 29 ?_); refine wpList_load_mid rfl 110 (.tmp 28) rfl b3 (o3 + j * 68) rfl (mkCells x) _ hr hUK rfl i1 ?_)
            | ((with_reducible refine wpList_atS 9 ?_); refine wpList_store_any rfl 110 (.tmp 9) (.tmp 29) rfl wr.heap.size (mkCells x).toArray rfl rfl 110 (mkCells mk0).toArray (heap_alloc_new _ _) i2 (size_mk mk0_ok hk) (mkCells_all _) ?_; intro w2 g2 ht2))
          have hb2 : Below wr.heap.size wr w2 := ht2.below ((Below.refl _ _).alloc (Nat.le_refl _) _) (Nat.le_refl _)
          have hm2 := hm.below hb2
          have gb2 := heap_below hb2 g
          have hB2 := below_then hB hB.size hb2
          have r1 := range_mk_pt (range_block (xs := mkCells x) g2)
          have r2 : w2.rangeAt wr.heap.size 33 (cnCells x.2) := by have := mkCells_cn hk (range_block (xs := mkCells x) g2); rwa [Nat.zero_add] at this
          have hroom : (putAll o (ms.take j)).length < maxLen := by have := putAll_length (ms.take j) o; rw [List.length_take] at this; unfold maxLen; omega
          obtain ⟨w3, hput, hm3, ht3⟩ := MapV.put (P := Tryd.prog) keyPt hUS hm2 hroom hk.1 x.2
          have hput' : (Instr.mapUpdate 100 (.map (some w0.heap.size)) (.agg (ptL x.1.1 x.1.2).toArray) (.agg (cnCells x.2).toArray)).run Tryd.prog w2 = .ok () w3 := hput
          rw [← HX.out] at hm3
          have gb3 := ht3.keep gb2 (by omega)
          have hB3 := ht3.below hB2 (by omega)
          clear hroom hput hm g hB hr ht2 hb2 hm2 gb2 hB2 ht3
          go_wp2_with (first
            | ((with_reducible refine wpList_at 32 ?_); refine wpList_load_mid rfl 64 (.tmp 31) rfl wr.heap.size 0 rfl (ptL x.1.1 x.1.2) _ r1 hUP rfl ip ?_)
            | ((with_reducible refine wpList_at 34 ?_); refine wpList_load_mid rfl 106 (.tmp 33) rfl wr.heap.size 33 rfl (cnCells x.2) _ r2 hUC rfl ic ?_)
            | (refine wpList_mapUpd rfl (.tmp 30) (.tmp 32) (.tmp 34) 100 rfl (.map (some w0.heap.size)) (.agg (ptL x.1.1 x.1.2).toArray) (.agg (cnCells x.2).toArray) rfl rfl rfl hput' ?_))
          go_roundw
          case rel => exact ⟨j + 1, by omega, by go_num, hm3, gb3, hB3⟩
          case measure => simp [intOf]; omega
        · have hlt' : ¬ (j : Int) < (n3 : Int) := by omega
          have hme : SetV wr w0.heap.size (putAll o ms) := by rwa [List.take_of_length_le (by rw [hln3.out]; omega)] at hm
          rename World => we
          have tS : we.cell? ⟨w.heap.size, 1, none⟩ = some (.slice A2 n2 c2) := blk_cell g rfl
          have hm0 : SetV we w0.heap.size (delAll (putAll o ms) (us.take 0)) := hme
          clear hme hm
          go_wp2
          go_loopw [39] (fun v39 wr => ∃ j : Nat, j ≤ n2 ∧ v39 = .int .i64 j ∧ SetV wr w0.heap.size (delAll (putAll o ms) (us.take j)) ∧ Below w.heap.size w wr) (fun v _ => n2 - (intOf v).toNat)
          case atStart => exact ⟨0, by omega, rfl, hm0, hB⟩
          case round =>
            clear hm0 g hB tS hbm
            obtain ⟨i, hi, rfl, hm, hB⟩ := hrel
            have hbm := hm.lt
            by_cases hil : i < n2
            · have hil' : (i : Int) < (n2 : Int) := by omega
              have hii : (0 : Int) ≤ (i : Int) := by omega
              obtain ⟨b3, o3, cs, u, hA, hx, ⟨rfl, hk⟩, hc⟩ := (RK.C.below hU hB).get i hil
              subst hA
              have hr : wr.rangeAt b3 (o3 + i * 70) (usCells u) := hc
              have i1 := info_us hk
              have i2 := info_usA hk
              have ip := info_pt hk.1.1.1 u.pt.2
              have HX : Hid (delAll (putAll o ms) (us.take (i + 1)) = delV (delAll (putAll o ms) (us.take i)) u.pt) := Lib.hid (by rw [List.take_add_one, hx]; exact delAll_snoc _ _ _)
              clear hc hx
              go_upto_region 14 with (first
                | ((with_reducible refine wpList_at 42 ?_); refine wpList_load_mid rfl 108 (.tmp 41) rfl b3 (o3 + i * 70) rfl (usCells u) _ hr hUU rfl i1 ?_)
                | ((with_reducible refine wpList_atS 11 ?_); refine wpList_store_any rfl 108 (.tmp 11) (.tmp 42) rfl wr.heap.size (usCells u).toArray rfl rfl 108 (usCells us0).toArray (heap_alloc_new _ _) i2 (size_us us0_ok hk) (usCells_all _) ?_; intro w2 g2 ht2))
              have hb2 : Below wr.heap.size wr w2 := ht2.below ((Below.refl _ _).alloc (Nat.le_refl _) _) (Nat.le_refl _)
              have hm2 := hm.below hb2
              have hB2 := below_then hB hB.size hb2
              have r1 := usCells_pt (range_block (xs := usCells u) g2)
              obtain ⟨w3, hdel, hm3, ht3⟩ := MapV.del (P := Tryd.prog) (ty := 0) keyPt hUS hm2 hk.1
              have hdel' : (Builtin.delete_ #[100, 64] 0 #[.map (some w0.heap.size), .agg (ptL u.pt.1 u.pt.2).toArray]).run Tryd.prog w2 = .ok (.tuple #[]) w3 := hdel
              rw [← HX.out] at hm3
              have hB3 := ht3.below hB2 (by omega)
              clear hdel hm hB hr ht2 hb2 hm2 hB2 ht3
              go_wp2_with (first
                | ((with_reducible refine wpList_at 45 ?_); refine wpList_load_mid rfl 64 (.tmp 44) rfl wr.heap.size 2 rfl (ptL u.pt.1 u.pt.2) _ r1 hUP rfl ip ?_))
              go_roundw
              case rel => exact ⟨i + 1, by omega, by go_num, hm3, hB3⟩
              case measure => simp [intOf]; omega
            · have hil' : ¬ (i : Int) < (n2 : Int) := by omega
              have hme : SetV wr w0.heap.size (delAll (putAll o ms) us) := by rwa [List.take_of_length_le (by rw [hln2.out]; omega)] at hm
              go_wp2
              go_ret
              exact ⟨_, rfl, by omega, o, HPo.out, hme, hB⟩
    · intro j pa pb v w3 hj hr3 ht hen
      have hx := HS.out _ (hr.sub.subset (List.mem_of_getElem? hj))
      have hen' : (Instr.entry (.pointer (some ⟨w1.heap.size, 0, none⟩))).run Tryd.prog w3 = .ok (.tuple #[.agg (ptL pa pb).toArray, .agg (cnCells v).toArray]) w3 := hen
      have HPn := Lib.hid (perm_step HP.out hj)
      have hll : (lft.eraseIdx j).length < lft.length := by
        have := (List.getElem?_eq_some_iff.1 hj).1
        rw [List.length_eraseIdx_of_lt this]
        omega
      have hM1 := Lib.hid hr.left_eq
      have hol : o.length < maxLen := by have := HP.out.length_eq; rw [List.length_append] at this; unfold maxLen; omega
      have HNW : Hid (putV o (pa, pb) v = o ++ [((pa, pb), v)]) := Lib.hid (putV_new o (pa, pb) v (fun p hp e => by
        have hn := ((HP.out.map Prod.fst).nodup_iff).1 HND.out
        rw [List.map_append, List.nodup_append] at hn
        exact hn.2.2 p.1 (List.mem_map_of_mem hp) (pa, pb) (List.mem_map.2 ⟨_, List.mem_of_getElem? hj, rfl⟩) e))
      have hlr := hr.lt
      have g3 := ht.keep g (by omega)
      have hm3 : SetV w3 w0.heap.size o := hm.keep (ht.block _ (by omega))
      have hB3 := ht.below hB (by omega)
      have hs3 : wr.heap.size ≤ w3.heap.size := by have := ht.size; omega
      clear hen hj g hm hB ht HP
      have q1 := blk_alloc (heap_alloc_new w3 (.cells (ptL zeros32 0).toArray 64)) (.cells (cnCells cn0).toArray 106)
      have q2 := heap_alloc_new (w3.alloc (.cells (ptL zeros32 0).toArray 64)) (.cells (cnCells cn0).toArray 106)
      rw [show (w3.alloc (.cells (ptL zeros32 0).toArray 64)).heap.size = w3.heap.size + 1 by simp] at q2
      have hbA : Below w3.heap.size w3 ((w3.alloc (.cells (ptL zeros32 0).toArray 64)).alloc (.cells (cnCells cn0).toArray 106)) := ((Below.refl _ _).alloc (Nat.le_refl _) _).alloc (by simp) _
      have i1 := info_ptA hx.1.1.1 pb
      have i2 := info_cnA hx.2
      go_upto_region 5 with (first
        | ((with_reducible refine wpList_atS 6 ?_); refine wpList_store_any rfl 64 (.tmp 6) (.tmp 18) rfl w3.heap.size (ptL pa pb).toArray rfl rfl 64 (ptL zeros32 0).toArray q1 i1 (size_pt zeros32_len hx.1.1.1 0 pb) (ptL_all _ _) ?_; intro w4 k4 ht4; have q3 := ht4.keep q2 (by omega))
        | ((with_reducible refine wpList_atS 7 ?_); refine wpList_store_any rfl 106 (.tmp 7) (.tmp 19) rfl (w3.heap.size + 1) (cnCells v).toArray rfl rfl 106 (cnCells cn0).toArray q3 i2 (size_cn cn0_ok hx.2) (cnCells_all _) ?_; intro w5 k5 ht5))
      have k4' := ht5.keep k4 (by omega)
      have hb5 := ht5.below (ht4.below hbA (Nat.le_refl _)) (Nat.le_succ _)
      have hr5 := hr3.below hb5
      have hm5 := hm3.below hb5
      have g5 := heap_below hb5 g3
      have hB5 := below_then hB3 (by omega) hb5
      clear q1 q2 q3 hbA k4 ht4 ht5 hr3 hm3 g3 hB3 hen'
      obtain ⟨w6, hput, hm6, ht6⟩ := MapV.put (P := Tryd.prog) keyPt hUS hm5 hol hx.1 v
      rw [HNW.out] at hm6
      have hput' : (Instr.mapUpdate 100 (.map (some w0.heap.size)) (.agg (ptL pa pb).toArray) (.agg (cnCells v).toArray)).run Tryd.prog w5 = .ok () w6 := hput
      have hr6 : RangeV PtOk w6 b w1.heap.size pkv cnv m (lft.eraseIdx j) := hr5.keep (ht6.block _ (by omega)) (ht6.block _ (by omega))
      have g6 := ht6.keep g5 (by omega)
      have hB6 := ht6.below hB5 (by omega)
      have hMl := Lib.hid hr6.left_eq
      clear hput hr5 hm5 g5 hB5 ht6
      go_wp2_with (first
        | ((with_reducible refine wpList_at 21 ?_); refine wpList_load_row rfl 64 (.tmp 6) rfl w3.heap.size rfl 64 _ _ _ k4' hUP rfl i1 ?_)
        | ((with_reducible refine wpList_at 22 ?_); refine wpList_load_row rfl 106 (.tmp 7) rfl (w3.heap.size + 1) rfl 106 _ _ _ k5 hUC rfl i2 ?_)
        | (refine wpList_mapUpd rfl (.tmp 20) (.tmp 21) (.tmp 22) 100 rfl (.map (some w0.heap.size)) (.agg (ptL pa pb).toArray) (.agg (cnCells v).toArray) rfl rfl rfl hput' ?_))
      go_roundw
      case rel => exact ⟨_, lft.eraseIdx j, hr6, hm6, HPn⟩
      case measure => rw [hMl.out, hM1.out]; omega
end Go.Proofs.YtclkgflficlmiaaDoor
end

/-! ## CoinS -/
section
set_option maxRecDepth 100000
set_option linter.unusedVariables false
namespace Go.Proofs.YtclkgflficlmiaaDoor
open Go Go.RowKit
def tot (l : List (Pt × Cn)) : Int := (l.map (fun x => x.2.coins)).sum
def totU (us : List Us) : Int := (us.map (fun u => u.coin.coins)).sum
def totO (os : List TOut) : Int := (os.map (fun o => o.coins)).sum
theorem tot_app (a b : List (Pt × Cn)) : tot (a ++ b) = tot a + tot b := by unfold tot; rw [List.map_append, List.sum_append]
theorem totU_app (a b : List Us) : totU (a ++ b) = totU a + totU b := by unfold totU; rw [List.map_append, List.sum_append]
theorem tot_cons (x : Pt × Cn) (l : List (Pt × Cn)) : tot (x :: l) = x.2.coins + tot l := rfl
theorem totU_cons (x : Us) (l : List Us) : totU (x :: l) = x.coin.coins + totU l := rfl
theorem totO_cons (x : TOut) (l : List TOut) : totO (x :: l) = x.coins + totO l := rfl
theorem tot_perm {m o : List (Pt × Cn)} (h : m.Perm o) : tot m = tot o := by
  induction h with
  | nil => rfl
  | cons x _ ih => rw [tot_cons, tot_cons, ih]
  | swap x y l => simp only [tot_cons]; omega
  | trans _ _ i1 i2 => rw [i1, i2]
theorem tot_take {l : List (Pt × Cn)} {j : Nat} {x : Pt × Cn} (h : l[j]? = some x) : tot (l.take (j + 1)) = tot (l.take j) + x.2.coins := by
  rw [List.take_add_one, h, tot_app]
  show _ + (x.2.coins + 0) = _
  rw [Int.add_zero]
theorem totU_take {l : List Us} {j : Nat} {x : Us} (h : l[j]? = some x) : totU (l.take (j + 1)) = totU (l.take j) + x.coin.coins := by
  rw [List.take_add_one, h, totU_app]
  show _ + (x.coin.coins + 0) = _
  rw [Int.add_zero]
theorem plan_ok {m : List (Pt × Cn)} (hn : (keys m).Nodup) {hd : Hd} {ts : List TTx} {hh : Int} (h0 : 0 ≤ hh) (h1 : hh ≤ 1073741824) {d : Df} (h : planF hd ts hh 0 m = .ok d) : ∃ lw, PlanOk m ts d lw := by
  have hr := plan_law (List.Perm.refl m) hn hd ts hh h0 h1
  rw [h] at hr
  revert hr
  generalize lawF hd ts hh m = b
  intro hr
  match b, hr with
  | .ok lw, h => exact ⟨lw, h⟩
theorem cg_sum : ∀ (l : List TOut) (s z : Int), cg l s = some z → z = s + totO l
  | [], s, z, h => by
    obtain rfl := Option.some.inj h
    show s = s + 0
    omega
  | c :: r, s, z, h => by
    rw [cg] at h
    split at h
    · cases h
    · have := cg_sum r _ z h
      rw [totO_cons]
      omega
theorem outSum_tot {t : TTx} (h : okC t = true) : outSum t = totO t.outs := by
  unfold okC at h
  unfold outSum
  cases hc : cg t.outs 0 with
  | none => rw [hc] at h; cases h
  | some z =>
    have := cg_sum t.outs 0 z hc
    show z = _
    omega
theorem mkOuts_tot (id : List Int) (h : Int) (pos : Nat) : ∀ (os : List TOut) (i : Nat), tot (mkOuts id h pos i os) = totO os ∧ (mkOuts id h pos i os).length = os.length
  | [], i => ⟨rfl, rfl⟩
  | o :: r, i => by
    obtain ⟨h1, h2⟩ := mkOuts_tot id h pos r (i + 1)
    refine ⟨?_, ?_⟩
    · rw [mkOuts, tot_cons, totO_cons, h1]
      rfl
    · rw [mkOuts, List.length_cons, h2, List.length_cons]
theorem mkOuts_mem {id : List Int} {h : Int} {pos : Nat} : ∀ {os : List TOut} {i : Nat} {x : Pt × Cn}, x ∈ mkOuts id h pos i os → ∃ o ∈ os, x.2.coins = o.coins
  | [], i, x, hx => by cases hx
  | o :: r, i, x, hx => by
    rw [mkOuts] at hx
    rcases List.mem_cons.1 hx with rfl | hx
    · exact ⟨o, List.mem_cons_self, rfl⟩
    · obtain ⟨o', ho, he⟩ := mkOuts_mem hx
      exact ⟨o', List.mem_cons_of_mem _ ho, he⟩
theorem plIns_sum (made m : List (Pt × Cn)) (pos : Nat) : ∀ (ins : List TIn) (i : Nat) (sp : List (Pt × Bool)) (us : List Us) (s : Int) (sp' : List (Pt × Bool)) (us' : List Us) (s' : Int), plIns made m pos i ins sp us s = .ok (sp', us', s') → totU us' = totU us + (s' - s) ∧ us'.length = us.length + ins.length
  | [], i, sp, us, s, sp', us', s', h => by
    rw [plIns] at h
    obtain ⟨rfl, rfl, rfl⟩ : sp = sp' ∧ us = us' ∧ s = s' := by simpa using h
    exact ⟨by omega, rfl⟩
  | x :: r, i, sp, us, s, sp', us', s', h => by
    rw [plIns] at h
    split at h
    · cases h
    · rename_i c _
      split at h
      · cases h
      · split at h
        · cases h
        · obtain ⟨h1, h2⟩ := plIns_sum made m pos r _ _ _ _ _ _ _ h
          rw [totU_app] at h1
          rw [List.length_append] at h2
          refine ⟨?_, ?_⟩
          · rw [h1]
            show totU us + (c.coins + 0) + _ = _
            omega
          · rw [h2, List.length_cons]
            simp only [List.length_cons, List.length_nil]
            omega
def insN (ts : List TTx) : Nat := (ts.map (fun t => t.ins.length)).sum
def outsN (ts : List TTx) : Nat := (ts.map (fun t => t.outs.length)).sum
theorem insN_cons (t : TTx) (r : List TTx) : insN (t :: r) = t.ins.length + insN r := rfl
theorem outsN_cons (t : TTx) (r : List TTx) : outsN (t :: r) = t.outs.length + outsN r := rfl
/-- What stays as it is from one transaction to the next. -/
def keep4 (st : PlS) : Int := tot st.makes - totU st.uses + st.fees
theorem plTx_sum {h : Int} {m : List (Pt × Cn)} {pos : Nat} {t : TTx} {st st' : PlS} (hc : okC t = true) (hr : plTx h m pos t st = .ok st') :
    keep4 st' = keep4 st + (if pos = 0 then outSum t else 0) ∧ st'.uses.length ≤ st.uses.length + t.ins.length ∧ st'.makes.length = st.makes.length + t.outs.length ∧ (∀ x ∈ st'.makes, x ∈ st.makes ∨ ∃ o ∈ t.outs, x.2.coins = o.coins) := by
  have hs := outSum_tot hc
  obtain ⟨k1, k2⟩ := mkOuts_tot (idF t) h pos t.outs 0
  unfold plTx at hr
  split at hr
  · cases hr
  · split at hr
    · rename_i hp
      subst hp
      obtain rfl := Except.ok.inj hr
      refine ⟨?_, ?_, ?_, ?_⟩
      · unfold keep4 plEnd
        simp only [tot_app, k1, if_true]
        omega
      · exact Nat.le_add_right _ _
      · unfold plEnd
        simp only [List.length_append, k2]
      · intro x hx
        unfold plEnd at hx
        rcases List.mem_append.1 hx with hx | hx
        · exact Or.inl hx
        · exact Or.inr (mkOuts_mem hx)
    · rename_i hp
      split at hr
      · cases hr
      · rename_i sp us s hi
        obtain ⟨j1, j2⟩ := plIns_sum _ _ _ _ _ _ _ _ _ _ _ hi
        split at hr
        · cases hr
        · split at hr
          · cases hr
          · obtain rfl := Except.ok.inj hr
            refine ⟨?_, ?_, ?_, ?_⟩
            · unfold keep4 plEnd
              simp only [tot_app, k1, hp, if_false, j1]
              omega
            · unfold plEnd
              simp only [j2]
              omega
            · unfold plEnd
              simp only [List.length_append, k2]
            · intro x hx
              unfold plEnd at hx
              rcases List.mem_append.1 hx with hx | hx
              · exact Or.inl hx
              · exact Or.inr (mkOuts_mem hx)
theorem plTxs_sum {h : Int} {m : List (Pt × Cn)} : ∀ (r : List TTx) (pos : Nat) (st st' : PlS), (∀ t ∈ r, okC t = true) → plTxs h m pos r st = .ok st' →
    keep4 st' = keep4 st + (if pos = 0 then (match r with | [] => 0 | t :: _ => outSum t) else 0) ∧ st'.uses.length ≤ st.uses.length + insN r ∧ st'.makes.length = st.makes.length + outsN r ∧ (∀ x ∈ st'.makes, x ∈ st.makes ∨ ∃ t ∈ r, ∃ o ∈ t.outs, x.2.coins = o.coins)
  | [], pos, st, st', hc, hr => by
    rw [plTxs] at hr
    obtain rfl := Except.ok.inj hr
    refine ⟨by split <;> simp, Nat.le_refl _, rfl, fun x hx => Or.inl hx⟩
  | t :: r, pos, st, st', hc, hr => by
    rw [plTxs] at hr
    split at hr
    · cases hr
    · rename_i s1 h1
      obtain ⟨a1, a2, a3, a4⟩ := plTx_sum (hc t List.mem_cons_self) h1
      obtain ⟨b1, b2, b3, b4⟩ := plTxs_sum r (pos + 1) s1 st' (fun t ht => hc t (List.mem_cons_of_mem _ ht)) hr
      rw [if_neg (Nat.succ_ne_zero pos)] at b1
      refine ⟨by rw [b1, a1]; simp only; omega, by rw [insN_cons]; omega, by rw [outsN_cons]; omega, fun x hx => ?_⟩
      rcases b4 x hx with hx | ⟨t', ht, o, ho, he⟩
      · rcases a4 x hx with hx | ⟨o, ho, he⟩
        · exact Or.inl hx
        · exact Or.inr ⟨t, List.mem_cons_self, o, ho, he⟩
      · exact Or.inr ⟨t', List.mem_cons_of_mem _ ht, o, ho, he⟩
/-- What a plan that goes through says of its sums. -/
structure PlanSum (ts : List TTx) (d : Df) : Prop where
  sum : tot d.makes = totU d.uses - d.fees + (match ts with | [] => 0 | t :: _ => outSum t)
  uses : d.uses.length ≤ insN ts
  makes : d.makes.length = outsN ts
  mem : ∀ x ∈ d.makes, ∃ t ∈ ts, ∃ o ∈ t.outs, x.2.coins = o.coins
  okc : ∀ t ∈ ts, okC t = true
theorem plan_sum {m : List (Pt × Cn)} {hd : Hd} {ts : List TTx} {hh : Int} (h0 : 0 ≤ hh) (h1 : hh ≤ 1073741824) {d : Df} (h : planF hd ts hh 0 m = .ok d) : PlanSum ts d := by
  have hck : chkF hd ts = 0 := by
    refine Decidable.byContradiction fun hc => ?_
    unfold planF at h
    rw [if_neg (by omega), if_pos hc] at h
    cases h
  have hok := fun t ht => (chkF_txs hck t ht).2
  rw [planF_ok h0 h1 hck] at h
  split at h
  · cases h
  · rename_i st hst
    obtain rfl := Except.ok.inj h
    obtain ⟨b1, b2, b3, b4⟩ := plTxs_sum ts 0 pl0 st hok hst
    refine ⟨?_, ?_, ?_, fun x hx => ?_, hok⟩
    · unfold keep4 at b1
      rw [if_pos rfl] at b1
      have e1 : tot pl0.makes = 0 := rfl
      have e2 : totU pl0.uses = 0 := rfl
      have e3 : pl0.fees = 0 := rfl
      rw [e1, e2, e3] at b1
      simp only
      omega
    · have : pl0.uses.length = 0 := rfl
      show st.uses.length ≤ _
      omega
    · have : pl0.makes.length = 0 := rfl
      show st.makes.length = _
      omega
    · rcases b4 x hx with hx | h
      · cases hx
      · exact h
theorem tot_delAll : ∀ (us : List Us) (m : List (Pt × Cn)), (keys m).Nodup → (pts us).Nodup → (∀ u ∈ us, m.lookup u.pt = some u.coin) → tot (delAll m us) = tot m - totU us
  | [], m, _, _, _ => by
    show tot m = tot m - 0
    omega
  | u :: r, m, hm, hu, hl => by
    have h1 := tot_perm (delV_perm m (hl u List.mem_cons_self))
    rw [tot_cons] at h1
    have hu' : u.pt ∉ pts r ∧ (pts r).Nodup := List.nodup_cons.1 hu
    have h2 := tot_delAll r (delV m u.pt) ((keys_delV m u.pt).nodup hm) hu'.2 (fun x hx => by
      rw [lookup_delV m hm, if_neg (by
        intro e
        exact hu'.1 (List.mem_map.2 ⟨x, hx, by simpa using e⟩))]
      exact hl x (List.mem_cons_of_mem _ hx))
    show tot (delAll (delV m u.pt) r) = _
    rw [h2, totU_cons]
    simp only at h1
    omega
/-- The set behind a block holds accordingly. -/
theorem tot_apply {m o : List (Pt × Cn)} {ts : List TTx} {d : Df} {lw : LwS} (hn : (keys m).Nodup) (h : PlanOk m ts d lw) (hp : m.Perm o) : tot (applyF o d) = tot m + tot d.makes - totU d.uses := by
  rw [← tot_perm (applyF_perm d hn hp)]
  unfold applyF
  rw [h.put, tot_delAll d.uses _ h.nod h.once h.coin, tot_app]
theorem keepF_mem {sp : List (Pt × Bool)} : ∀ {l : List (Pt × Cn)} {x : Pt × Cn}, x ∈ keepF sp l → x ∈ l ∧ spentB sp x = false := by
  intro l x hx
  unfold keepF at hx
  have := List.mem_filter.1 hx
  exact ⟨this.1, by simpa using this.2⟩
theorem cs_u32wrap (k : Nat) (h : k ≤ 8) : IntKind.u32.wrap (k : Int) = (k : Int) := by
  unfold IntKind.wrap
  simp [IntKind.signed, IntKind.bits]
  omega
theorem ins_txB (s : Int) (i : Nat) (p : TPay) (all : List Pt) (h : p.1.length ≤ 6) : (txB s i p all).ins.length ≤ 6 := by
  show (if i = 0 then [firstB s] else insB all p.1).length ≤ 6
  split
  · simp
  · unfold insB
    split
    · simp
    · rw [List.length_map]; exact h
theorem outs_txB (s : Int) (i : Nat) (p : TPay) (all : List Pt) : (txB s i p all).outs.length = p.2.1.length := by
  show (p.2.1.map ouB).length = _
  rw [List.length_map]
theorem coins_txB (s : Int) (i : Nat) (p : TPay) (all : List Pt) : ∀ o ∈ (txB s i p all).outs, 0 ≤ o.coins ∧ o.coins ≤ 65535 := by
  intro o ho
  have ho : o ∈ p.2.1.map ouB := ho
  obtain ⟨g, _, rfl⟩ := List.mem_map.1 ho
  have h1 := Int.emod_nonneg g.1 (show (65536 : Int) ≠ 0 by decide)
  have h2 := Int.emod_lt_of_pos g.1 (show (0 : Int) < 65536 by decide)
  exact ⟨h1, by show g.1 % 65536 ≤ 65535; omega⟩
theorem bldT_sums (s : Int) : ∀ (pays : List TPay) (i : Nat) (all : List Pt), (∀ p ∈ pays, p.1.length ≤ 6 ∧ p.2.1.length ≤ 6) →
    insN (bldT s i pays all).1 ≤ 6 * pays.length ∧ outsN (bldT s i pays all).1 ≤ 6 * pays.length ∧ (bldT s i pays all).2.length ≤ all.length + 6 * pays.length ∧ (bldT s i pays all).1.length = pays.length ∧ ∀ t ∈ (bldT s i pays all).1, ∀ o ∈ t.outs, 0 ≤ o.coins ∧ o.coins ≤ 65535
  | [], i, all, _ => ⟨Nat.le_refl _, Nat.le_refl _, Nat.le_refl _, rfl, fun t ht => by cases ht⟩
  | p :: r, i, all, h => by
    obtain ⟨q1, q2⟩ := h p List.mem_cons_self
    have e1 := ins_txB s i p all q1
    have e2 := outs_txB s i p all
    have e3 : (ptsB (txB s i p all)).length = (txB s i p all).outs.length := by unfold ptsB; simp
    obtain ⟨a1, a2, a3, a4, a5⟩ := bldT_sums s r (i + 1) (all ++ ptsB (txB s i p all)) (fun x hx => h x (List.mem_cons_of_mem _ hx))
    rw [List.length_append] at a3
    rw [bldT]
    refine ⟨?_, ?_, ?_, ?_, fun t ht => ?_⟩
    · show insN (_ :: _) ≤ _
      rw [insN_cons, List.length_cons]
      omega
    · show outsN (_ :: _) ≤ _
      rw [outsN_cons, List.length_cons]
      omega
    · show List.length (bldT s (i + 1) r _).2 ≤ _
      rw [List.length_cons]
      omega
    · show List.length (_ :: _) = _
      rw [List.length_cons, a4, List.length_cons]
    · rcases List.mem_cons.1 ht with rfl | ht
      · exact coins_txB s i p all
      · exact a5 t ht
end Go.Proofs.YtclkgflficlmiaaDoor
end
end

/-! ## CoinSl -/
section
set_option maxRecDepth 100000
set_option linter.unusedVariables false
namespace Go.Proofs.YtclkgflficlmiaaDoor
open Go Go.RowKit
/-- The set so far. -/
structure SetG (k : Nat) (m : List (Pt × Cn)) : Prop where
  ok : SetOk m
  rng : ∀ x ∈ m, 0 ≤ x.2.coins ∧ x.2.coins ≤ 65535
  len : m.length ≤ 36 * k
theorem SetG.nil : SetG 0 [] := ⟨fun x h => (nomatch h), fun x h => (nomatch h), Nat.le_refl _⟩
theorem SetG.mono {k : Nat} {m : List (Pt × Cn)} (h : SetG k m) : SetG (k + 1) m := ⟨h.ok, h.rng, by have := h.len; omega⟩
theorem SetG.top {k : Nat} {m : List (Pt × Cn)} (h : SetG k m) : ∀ x ∈ m, 0 ≤ x.2.coins ∧ x.2.coins ≤ topM := fun x hx => ⟨(h.rng x hx).1, by have := (h.rng x hx).2; unfold topM; omega⟩
theorem totU_rng : ∀ (us : List Us), (∀ u ∈ us, 0 ≤ u.coin.coins ∧ u.coin.coins ≤ 65535) → 0 ≤ totU us ∧ totU us ≤ 65535 * (us.length : Int)
  | [], _ => ⟨Int.le_refl _, Int.le_refl _⟩
  | u :: r, h => by
    obtain ⟨h1, h2⟩ := totU_rng r (fun x hx => h x (List.mem_cons_of_mem _ hx))
    have h3 := h u List.mem_cons_self
    rw [totU_cons, List.length_cons]
    omega
theorem tot_rng : ∀ (ms : List (Pt × Cn)), (∀ x ∈ ms, 0 ≤ x.2.coins ∧ x.2.coins ≤ 65535) → 0 ≤ tot ms ∧ tot ms ≤ 65535 * (ms.length : Int)
  | [], _ => ⟨Int.le_refl _, Int.le_refl _⟩
  | u :: r, h => by
    obtain ⟨h1, h2⟩ := tot_rng r (fun x hx => h x (List.mem_cons_of_mem _ hx))
    have h3 := h u List.mem_cons_self
    rw [tot_cons, List.length_cons]
    omega
theorem usCells_coins {u : Us} (h : UsOk u) : (usCells u)[35]? = some (.int .i64 u.coin.coins) := by
  have hl := ptL_length h.1.1.1 u.pt.2
  unfold usCells
  rw [List.getElem?_cons_succ, List.getElem?_cons_succ, List.getElem?_append_right (by rw [hl]; omega), hl]
  rfl
theorem mkCells_coins {x : Pt × Cn} (h : MkOk x) : (mkCells x)[33]? = some (.int .i64 x.2.coins) := by
  have hl := ptL_length h.1.1.1 x.1.2
  unfold mkCells
  rw [List.getElem?_append_right (by rw [hl]; omega), hl]
  rfl
theorem mem_delV {α β : Type} [BEq α] : ∀ {m : List (α × β)} {a : α} {x : α × β}, x ∈ delV m a → x ∈ m
  | [], a, x, h => by rw [delV] at h; cases h
  | (k, y) :: r, a, x, h => by
    rw [delV] at h
    split at h
    · exact List.mem_cons_of_mem _ h
    · rcases List.mem_cons.1 h with h | h
      · rw [h]; exact List.mem_cons_self
      · exact List.mem_cons_of_mem _ (mem_delV h)
theorem delV_length {α β : Type} [BEq α] : ∀ (m : List (α × β)) (a : α), (delV m a).length ≤ m.length
  | [], a => by rw [delV]; exact Nat.le_refl _
  | (k, y) :: r, a => by
    rw [delV]
    split
    · exact Nat.le_succ _
    · have := delV_length r a
      simp only [List.length_cons]
      omega
theorem mem_delAll : ∀ {us : List Us} {m : List (Pt × Cn)} {x : Pt × Cn}, x ∈ delAll m us → x ∈ m
  | [], m, x, h => h
  | u :: r, m, x, h => mem_delV (mem_delAll (us := r) (m := delV m u.pt) h)
theorem delAll_length : ∀ (us : List Us) (m : List (Pt × Cn)), (delAll m us).length ≤ m.length
  | [], m => Nat.le_refl _
  | u :: r, m => Nat.le_trans (delAll_length r (delV m u.pt)) (delV_length m u.pt)
theorem SetG.next {k : Nat} {m o ms : List (Pt × Cn)} {us : List Us} (h : SetG k m) (hp : m.Perm o) (hl : ms.length ≤ 36) (hk : ∀ x ∈ ms, MkOk x) (hc : ∀ x ∈ ms, 0 ≤ x.2.coins ∧ x.2.coins ≤ 65535) : SetG (k + 1) (delAll (putAll o ms) us) := by
  refine ⟨fun x hx => ?_, fun x hx => ?_, ?_⟩
  · rcases mem_putAll (mem_delAll hx) with hx | hx
    · exact h.ok x (hp.mem_iff.2 hx)
    · exact hk x hx
  · rcases mem_putAll (mem_delAll hx) with hx | hx
    · exact h.rng x (hp.mem_iff.2 hx)
    · exact hc x hx
  · have h1 := delAll_length us (putAll o ms)
    have h2 := putAll_length ms o
    have h3 := hp.length_eq
    have h4 := h.len
    omega
theorem marks_look (p : Pt) : ∀ (us : List Us) (m : List (Pt × Bool)), (us.foldl (fun m u => putV m u.pt true) m).lookup p = if p ∈ pts us then some true else m.lookup p
  | [], m => by simp [pts]
  | u :: r, m => by
    rw [List.foldl_cons, marks_look p r, lookup_putV]
    by_cases h1 : p ∈ pts r
    · have : p ∈ pts (u :: r) := List.mem_cons_of_mem _ h1
      rw [if_pos h1, if_pos this]
    · rw [if_neg h1]
      by_cases h2 : p = u.pt
      · have : p ∈ pts (u :: r) := by rw [h2]; exact List.mem_cons_self
        rw [if_pos this, if_pos (by rw [h2]; simp)]
      · have : p ∉ pts (u :: r) := fun h => by
          rcases List.mem_cons.1 h with h | h
          · exact h2 h
          · exact h1 h
        rw [if_neg this, if_neg (by simpa using h2)]
/-- What is left lies in the set behind the block. -/
theorem left_look {m o ms : List (Pt × Cn)} {us : List Us} {ids : List (List Int)} {fe : Int} {ts : List TTx} {lw : LwS} (hn : (keys m).Nodup) (hp : m.Perm o) (h : PlanOk m ts ⟨ids, us, ms, fe⟩ lw) : ∀ x ∈ keepF (marks us) ms, (delAll (putAll o ms) us).lookup x.1 = some x.2 := by
  intro x hx
  obtain ⟨h1, h2⟩ := keepF_mem hx
  have hp2 := applyF_perm ⟨ids, us, ms, fe⟩ hn hp
  have h3 : (applyF m ⟨ids, us, ms, fe⟩).lookup x.1 = (applyF o ⟨ids, us, ms, fe⟩).lookup x.1 := lookup_perm h.set hp2 x.1
  have h4 : x.1 ∉ pts us := fun hm => by
    unfold spentB marks at h2
    rw [marks_look, if_pos hm] at h2
    cases h2
  have h5 := h.left x.1
  rw [if_neg h4, h3] at h5
  show (applyF o ⟨ids, us, ms, fe⟩).lookup x.1 = _
  rw [h5]
  exact lookup_some_of h.nod (List.mem_append_right _ h1)
theorem eq_cn (c : Cn) (h : c.Ok) (W : World) : (Op.equalIn 10000 106 (.agg (cnCells c).toArray) (.agg (cnCells c).toArray)).run Tryd.prog W = .ok true W := by
  rw [run_equalIn_struct W 9999 106 _ _ (by kernel_rfl) (by kernel_rfl)]
  have hs : (nums .u8 c.script).length = 32 := by rw [nums_length]; exact h.sc.1
  have p0 := part_cell 2 .i64 Tryd.underlying2 (cnCells c) 0 (.int .i64 c.coins) rfl
  have p1 := part_hash (cnCells c) 1 c.script (by
    unfold cnCells
    rw [List.drop_succ_cons, List.drop_zero, List.take_left' hs])
  have p2 := part_cell 3 .i64 Tryd.underlying3 (cnCells c) 33 (.int .i64 c.height) (by
    unfold cnCells
    rw [show 33 = 32 + 1 from rfl, List.getElem?_cons_succ, List.getElem?_append_right (by rw [hs]; omega), hs]
    rfl)
  have p3 := part_cell 3 .i64 Tryd.underlying3 (cnCells c) 34 (.int .i64 (c.pos : Int)) (by
    unfold cnCells
    rw [show 34 = 33 + 1 from rfl, List.getElem?_cons_succ, List.getElem?_append_right (by rw [hs]; omega), hs]
    rfl)
  have e1 := eqHashN 9997 c.script h.sc.1
  simp only [Program.fieldsOf, Tryd.underlying106]
  simp [Op.eqFields, p0, p1, p2, p3, e1, run_equalIn_int _ 9998 _ _ _ _ _ Tryd.underlying3, run_equalIn_int _ 9998 _ _ _ _ _ Tryd.underlying2]
theorem plan_err {m : List (Pt × Cn)} (hn : (keys m).Nodup) {hd : Hd} {ts : List TTx} {hh : Int} (h0 : 0 ≤ hh) (h1 : hh ≤ 1073741824) {x : Int} (h : planF hd ts hh 0 m = .error x) : x ≠ 0 := by
  have hr := plan_law (List.Perm.refl m) hn hd ts hh h0 h1
  rw [h] at hr
  revert hr
  generalize lawF hd ts hh m = b
  intro hr
  match b, hr with
  | .error f, h => exact h.2
theorem plan_ne {m : List (Pt × Cn)} {hd : Hd} {ts : List TTx} {hh : Int} (h0 : 0 ≤ hh) (h1 : hh ≤ 1073741824) {d : Df} (h : planF hd ts hh 0 m = .ok d) : ∃ t r, ts = t :: r := by
  cases ts with
  | cons t r => exact ⟨t, r, rfl⟩
  | nil =>
    unfold planF at h
    rw [if_neg (by omega), if_pos (by unfold chkF; rw [if_pos (show first0 [] = false from rfl)]; decide)] at h
    cases h
end Go.Proofs.YtclkgflficlmiaaDoor
end
